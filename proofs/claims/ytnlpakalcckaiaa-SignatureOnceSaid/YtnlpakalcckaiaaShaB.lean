/-
  The reference's SHA-256: rotations. Conditions: words below 2^32.
-/
import Derived.Test.YtnlpakalcckaiaaShaA
import Derived.Test.YtnlpakalcckaiaaBase
import Derived.Laws.CopyRow
import Derived.Laws.IdiomStrings
import Derived.Lib.Bytealg
import Derived.Laws.MakeOwn
namespace Go.Proofs.Ytnlpakalcckaiaa
set_option linter.unusedVariables false
open Go.RowKit

theorem be8_next (n k : Nat) (h : k < 8) : (Sh.be8 n).take (k + 1) = (Sh.be8 n).take k ++ [UInt8.ofNat (n / 2 ^ (8 * (7 - k)))] := by
  rcases lt8 h with rfl | rfl | rfl | rfl | rfl | rfl | rfl | rfl <;> simp [Sh.be8]
end Go.Proofs.Ytnlpakalcckaiaa
/-
  The schedule of the reference's SHA-256. Conditions: blocks of 64 bytes.
-/
namespace Go.Proofs.Ytnlpakalcckaiaa
set_option linter.unusedVariables false
open Go.RowKit

theorem info_u32 : (Try.prog.info? 114).map (fun i => (i.zero, i.size, i.bytes)) = some (some (.int .u32 0), 1, 4) := by kernel_rfl
theorem u32s_append (a b : List Nat) : u32s (a ++ b) = u32s a ++ u32s b := by simp [u32s]
/-- four bytes, shifted and joined -/
theorem or4 (a b c d : UInt8) : bits .or .u32 (bits .or .u32 (bits .or .u32 ((a.toNat : Int) * 16777216) ((b.toNat : Int) * 65536)) ((c.toNat : Int) * 256)) (d.toNat : Int) = ((Sh.word a.toNat b.toNat c.toNat d.toNat : Nat) : Int) := by
  have h1 := a.toNat_lt
  have h2 := b.toNat_lt
  have h3 := c.toNat_lt
  have h4 := d.toNat_lt
  generalize a.toNat = x at *
  generalize b.toNat = y at *
  generalize c.toNat = z at *
  generalize d.toNat = t at *
  have e1 : (x : Int) * 16777216 = ((x * 16777216 : Nat) : Int) := by omega
  have e2 : (y : Int) * 65536 = ((y * 65536 : Nat) : Int) := by omega
  have e3 : (z : Int) * 256 = ((z * 256 : Nat) : Int) := by omega
  have o1 : x * 16777216 ||| y * 65536 = x * 16777216 + y * 65536 := by
    have := Nat.two_pow_add_eq_or_of_lt (i := 24) (b := y * 65536) (by omega) x
    rw [show 2 ^ 24 * x = x * 16777216 by omega] at this
    exact this.symm
  have o2 : x * 16777216 + y * 65536 ||| z * 256 = x * 16777216 + y * 65536 + z * 256 := by
    have := Nat.two_pow_add_eq_or_of_lt (i := 16) (b := z * 256) (by omega) (x * 256 + y)
    rw [show 2 ^ 16 * (x * 256 + y) = x * 16777216 + y * 65536 by omega] at this
    exact this.symm
  have o3 : x * 16777216 + y * 65536 + z * 256 ||| t = x * 16777216 + y * 65536 + z * 256 + t := by
    have := Nat.two_pow_add_eq_or_of_lt (i := 8) (b := t) (by omega) (x * 65536 + y * 256 + z)
    rw [show 2 ^ 8 * (x * 65536 + y * 256 + z) = x * 16777216 + y * 65536 + z * 256 by omega] at this
    exact this.symm
  rw [e1, e2, e3, u32_or_nat _ _ (by omega) (by omega), o1, u32_or_nat _ _ (by omega) (by omega), o2, u32_or_nat _ _ (by omega) (by omega), o3]
  have hw : x * 16777216 + y * 65536 + z * 256 + t = Sh.word x y z t := by unfold Sh.word; omega
  rw [hw]
end Go.Proofs.Ytnlpakalcckaiaa
/-
  The compression of the reference's SHA-256. Conditions: blocks of 64 bytes, words below 2^32.
-/
namespace Go.Proofs.Ytnlpakalcckaiaa
set_option linter.unusedVariables false
open Go.RowKit

/-- what a call of its own has made is held besides -/
theorem St.join {lo : Nat} {w0 w w' : World} {Rs Ps : List Res} (h : St lo w0 w Rs) (h' : St w.heap.size w w' Ps) : St lo w0 w' (Ps ++ Rs) := by
  have hs := h.size
  refine ⟨h.below.trans (h'.below.mono hs), h.base, ?_⟩
  refine Held.append (F := fun k => w.heap.size ≤ k) (V := fun k => lo ≤ k ∧ k < w.heap.size) h'.held (h.held.lt.mod (Mod.of_below h'.below (fun _ => False)) (fun _ _ h => h)) (fun k hk => ⟨by show lo ≤ k; omega, fun hv => by omega⟩) (fun k hk => hk.1)
theorem row_u32 {w : World} {t : TypeId} {v : Value} {n : Nat} {L : List Nat} (h : w.ownsRow 0 t 1 v n (u32s L)) (hn : 0 < n) :
    ∃ g cap, v = .slice (some ⟨g, 0, none⟩) n cap ∧ g < w.heap.size ∧ ∀ j, j < n → w.cell? ⟨g, j, none⟩ = some (.int .u32 ((L.getD j 0 : Nat) : Int)) := by
  obtain ⟨g, cap, rfl, _, hg⟩ := h.form hn
  have hl : L.length = n := by have := h.1; rw [u32s_length] at this; omega
  refine ⟨g, cap, rfl, hg, fun j hj => ?_⟩
  have := h.cells (g := g) rfl j (.int .u32 ((L.getD j 0 : Nat) : Int)) (by simp [u32s, hl, hj, List.getD_eq_getElem?_getD])
  rw [Addr.add_lit, Nat.zero_add] at this
  exact this
end Go.Proofs.Ytnlpakalcckaiaa
/-
  The compression of the reference's SHA-256. Conditions: blocks of 64 bytes, words below 2^32.
-/
namespace Go.Proofs.Ytnlpakalcckaiaa
set_option linter.unusedVariables false
open Go.RowKit

end Go.Proofs.Ytnlpakalcckaiaa
/-
  A row of the call's own whose block may bear a mark beyond its cells (what a conversion of a string to bytes leaves): it is appended to, stored into, and read back as a string. Conditions: none.
-/
namespace Go.Proofs.Ytnlpakalcckaiaa
set_option linter.unusedVariables false
open Go.RowKit

/-- no one of the first n cells is frozen -/
def Calm (fr : Nat × Nat) (n : Nat) : Prop := ∀ j, j < n → ¬ (fr.1 ≤ j ∧ j < fr.2)
theorem calm_frozen {w : World} {g : Nat} {cur : Array Value} {t : TypeId} {fr : Nat × Nat} (hg : w.heap[g]? = some (.cells cur t fr)) (hc : Calm fr cur.size) (j : Nat) (hj : j < cur.size) : w.frozen? ⟨g, j, none⟩ = false := by
  obtain ⟨lo, hi⟩ := fr
  have := hc j hj
  simp only [World.frozen?, hg]
  simp only at this
  by_cases h1 : lo ≤ j
  · have h2 : ¬ j < hi := fun h => this ⟨h1, h⟩
    simp [h2]
  · simp [h1]
theorem store_calm (P : Program) (g : Nat) (t : TypeId) (fr : Nat × Nat) : ∀ (news : List Value) (o k : Nat) (cur : Array Value) (w : World), w.heap[g]? = some (.cells cur t fr) → Calm fr cur.size → o + k + news.length ≤ cur.size → (∀ v ∈ news, v.oneCell' = true) →
    (storeCells ⟨g, o, none⟩ news k).run P w = .ok () (w.setRow g (cur.toList.take (o + k) ++ news ++ cur.toList.drop (o + k + news.length)).toArray) := by
  intro news
  induction news with
  | nil =>
    intro o k cur w hg _ _ _
    have h0 : (cur.toList.take (o + k) ++ [] ++ cur.toList.drop (o + k + ([] : List Value).length)).toArray = cur := by simp
    rw [h0, setRow_self w g cur t fr hg]
    rfl
  | cons x rest ih =>
    intro o k cur w hg hc hl h1
    have hlen : o + k < cur.size := by simp at hl; omega
    have ha : (⟨g, o, none⟩ : Addr).add k = ⟨g, o + k, none⟩ := Addr.add_lit g o k
    have hcell : w.cell? ⟨g, o + k, none⟩ = some cur[o + k] := by simp [World.cell?, hg, hlen]
    have hset := setRow_heap w g cur (cur.setIfInBounds (o + k) x) t fr hg
    have hs : (store ((⟨g, o, none⟩ : Addr).add k) x).run P w = .ok () (w.setRow g (cur.setIfInBounds (o + k) x)) := by
      rw [ha, run_store P w _ x _ (h1 x (by simp)), hcell]
      simp [calm_frozen hg hc (o + k) hlen, setCell_eq_setRow w g (o + k) cur t fr x hg]
    have hi := ih o (k + 1) (cur.setIfInBounds (o + k) x) _ hset (by rwa [Array.size_setIfInBounds]) (by simp at hl ⊢; omega) (fun y hy => h1 y (by simp [hy]))
    simp only [storeCells, Sem.run_bind, hs, Result.andThen_ok, hi, setRow_setRow]
    congr 3
    have e := list_seg_step cur.toList (o + k) x rest (by simp at hl ⊢; omega)
    simpa [Array.toList_setIfInBounds, Nat.add_assoc] using e
/-- the slice v owns the cells xs; a mark of its block lies beyond them -/
def OwnsM (w : World) (e : TypeId) (size : Nat) (v : Value) (n : Nat) (xs : List Value) : Prop :=
  xs.length = n * size ∧ ((v = .slice none 0 0 ∧ n = 0) ∨ ∃ g cap cur fr, v = .slice (some ⟨g, 0, none⟩) n cap ∧ w.heap[g]? = some (.cells cur e fr) ∧ Calm fr cur.size ∧ n ≤ cap ∧ cap ≤ maxLen ∧ cur.size = cap * size ∧ cur.toList.take (n * size) = xs)
section
variable {w w' : World} {e : TypeId} {size : Nat} {v : Value} {n : Nat} {xs : List Value}
theorem OwnsM.of (h : w.ownsRow 0 e size v n xs) : OwnsM w e size v n xs := by
  refine ⟨h.1, ?_⟩
  rcases h.2 with h2 | ⟨g, cap, cur, hv, _, hg, r⟩
  · exact .inl h2
  · exact .inr ⟨g, cap, cur, (0, 0), hv, hg, fun j _ h => by have := h.2; simp at this, r⟩
theorem OwnsM.lt (h : OwnsM w e size v n xs) : ∀ k, v.ownBlock = some k → k < w.heap.size := by
  intro k hk
  rcases h.2 with ⟨rfl, _⟩ | ⟨g, cap, cur, fr, rfl, hg, _⟩
  · simp [Value.ownBlock] at hk
  · simp [Value.ownBlock] at hk
    subst hk
    exact (Array.getElem?_eq_some_iff.1 hg).1
theorem OwnsM.mod {S : Nat → Prop} (h : OwnsM w e size v n xs) (hm : Mod S w w') (hv : ∀ k, v.ownBlock = some k → ¬ S k) : OwnsM w' e size v n xs := by
  refine ⟨h.1, ?_⟩
  have hlt := h.lt
  rcases h.2 with h2 | ⟨g, cap, cur, fr, rfl, hg, r⟩
  · exact .inl h2
  · exact .inr ⟨g, cap, cur, fr, rfl, (hm.block g (hlt g rfl) (hv g rfl)).trans hg, r⟩
theorem OwnsM.cells (h : OwnsM w e size v n xs) {g : Nat} (hg : v.ownBlock = some g) : ∀ j u, xs[j]? = some u → w.cell? ⟨g, j, none⟩ = some u := by
  intro j u hu
  rcases h.2 with ⟨rfl, _⟩ | ⟨g', cap, cur, fr, rfl, hh, _, _, _, _, ht⟩
  · simp [Value.ownBlock] at hg
  · simp [Value.ownBlock] at hg
    subst hg
    rw [cell_of_row w g' j cur e fr hh]
    rw [← ht, List.getElem?_take] at hu
    split at hu
    · simpa using hu
    · cases hu
theorem OwnsM.put {g cap : Nat} (h : OwnsM w e size (.slice (some ⟨g, 0, none⟩) n cap) n xs) (j : Nat) (u : Value) (hj : j < n * size) : OwnsM (w.setCell ⟨g, j, none⟩ u) e size (.slice (some ⟨g, 0, none⟩) n cap) n (xs.set j u) := by
  refine ⟨by rw [List.length_set]; exact h.1, ?_⟩
  rcases h.2 with ⟨he, _⟩ | ⟨g', cap', cur, fr, he, hg, hc, h1, h2, h3, h4⟩
  · cases he
  · injection he with e1 e2 e3
    injection e1 with e1
    injection e1 with e1
    subst e1 e3
    refine .inr ⟨g, cap, cur.setIfInBounds j u, fr, rfl, ?_, by rwa [Array.size_setIfInBounds], h1, h2, by rwa [Array.size_setIfInBounds], ?_⟩
    · rw [setCell_eq_setRow w g j cur e fr u hg]
      exact setRow_heap w g cur _ e fr hg
    · rw [Array.toList_setIfInBounds, List.take_set, h4]
theorem OwnsM.append {P : Program} (h : OwnsM w e size v n xs) (t ty : TypeId) (i : TypeInfo) (z : Value) (bytes : Nat) (ht : P.underlying t = some (.slice e)) (hi : P.info? e = some i) (hz : i.zero = some z) (hsize : i.size = size) (hby : i.bytes = bytes) (hzs : z.cells.size = size) (hsz : 0 < size)
    (a : Addr) (m c : Nat) (news : List Value) (hl : news.length = m * size) (hnews : ∀ j u, news[j]? = some u → w.cell? (a.add j) = some u) (h1 : ∀ u ∈ news, u.oneCell' = true) (h63 : n + m ≤ maxLen) (hbytes : (n + m) * bytes ≤ 140737488355328) :
    ∃ v' w', (Builtin.append_ #[t, t] ty #[v, .slice (some a) m c]).run P w = .ok v' w' ∧ OwnsM w' e size v' (n + m) (xs ++ news) ∧ w.grownBy w' v.ownBlock ∧ (v'.ownBlock = v.ownBlock ∨ v'.ownBlock = some w.heap.size) := by
  rcases h.2 with ⟨rfl, rfl⟩ | ⟨g, cap, cur, fr, rfl, hg, hc, hnc, hcm, hcs, htk⟩
  · obtain ⟨v', w', r1, r2, r3, _, r5⟩ := run_append_own_at (P := P) w 0 t ty e i z size bytes ht hi hz hsize hby hzs hsz (.slice none 0 0) 0 xs ⟨h.1, .inl ⟨rfl, rfl⟩⟩ a m c news hl hnews h1 h63 hbytes (Nat.zero_le _)
    exact ⟨v', w', r1, .of r2, r3, r5⟩
  · subst hsize
    subst hby
    have hlen : (xs ++ news).length = (n + m) * i.size := by rw [List.length_append, h.1, hl, Nat.add_mul]
    have h64 := h63
    unfold maxLen at h64
    by_cases hroom : n + m ≤ cap
    · have hfit : n * i.size + news.length ≤ cur.size := by rw [hl, hcs, ← Nat.add_mul]; exact Nat.mul_le_mul_right _ hroom
      have hf := run_firstCells_some (P := P) w i.size m a m c news hl hnews
      have hst := store_calm P g e fr news (n * i.size) 0 cur w hg hc (by simpa using hfit) h1
      simp only [Nat.add_zero] at hst
      have hrun : (Builtin.append_ #[t, t] ty #[.slice (some ⟨g, 0, none⟩) n cap, .slice (some a) m c]).run P w = .ok (.slice (some ⟨g, 0, none⟩) (n + m) cap) (w.setRow g (cur.toList.take (n * i.size) ++ news ++ cur.toList.drop (n * i.size + news.length)).toArray) := by
        simp [Builtin.append_, run_underlying ht, sizeOf, typeInfo, hi, Builtin.lenOf, hroom, hf, Addr.add_lit, hst]
      have hsz2 : (cur.toList.take (n * i.size) ++ news ++ cur.toList.drop (n * i.size + news.length)).toArray.size = cur.size := by
        simp only [List.size_toArray, List.length_append, List.length_take, List.length_drop, Array.length_toList]
        omega
      refine ⟨_, _, hrun, ⟨hlen, .inr ⟨g, cap, _, fr, rfl, setRow_heap w g cur _ e fr hg, by rwa [hsz2], hroom, hcm, by rw [hsz2, hcs], ?_⟩⟩, ⟨rfl, rfl, rfl, by simp, fun k _ hk => setRow_other w g k _ (fun e => hk (by simp [Value.ownBlock, e]))⟩, .inl rfl⟩
      rw [htk, ← hlen]
      exact List.take_left
    · have holds : ∀ j u, xs[j]? = some u → w.cell? ((⟨g, 0, none⟩ : Addr).add j) = some u := fun j u hj => by rw [Addr.add_lit, Nat.zero_add]; exact h.cells (g := g) rfl j u hj
      have hr := run_append_grow (P := P) w t ty e i z ht hi hz ⟨g, 0, none⟩ n cap xs h.1 holds a m c news hl hnews (by omega) (by omega) (growslice_fits (by omega) hbytes)
      have hge := grownCap_ge w (n + m) cap e
      have hcm2 := grownCap_le_maxLen w (n + m) cap e h63
      refine ⟨_, _, hr, .of ⟨hlen, .inr ⟨w.heap.size, _, _, rfl, Nat.zero_le _, heap_alloc_new w.drew _, hge, hcm2, ?_, ?_⟩⟩, ⟨rfl, rfl, rfl, by simp, fun k hk _ => Below.heap_alloc w.drew _ k hk⟩, .inr rfl⟩
      · simp only [Array.size_append, List.size_toArray, size_zeroCells, hzs, h.1, hl, ← Nat.add_mul]
        congr 1
        omega
      · simp only [Array.toList_append, List.append_assoc]
        rw [← List.append_assoc, ← hlen]
        exact List.take_left
end
/-- .. as a thing that is held -/
def ownM (e : TypeId) (size : Nat) (v : Value) (n : Nat) (xs : List Value) : Res where
  P w F := OwnsM w e size v n xs ∧ (∀ k, v.ownBlock = some k → F k) ∧ ∀ k, F k → k < w.heap.size
  lt h := h.2.2
  mod h hm hG := ⟨h.1.mod hm (fun k hk => hG k (h.2.1 k hk)), h.2.1, fun k hk => Nat.lt_of_lt_of_le (h.2.2 k hk) hm.size⟩
section
variable {lo : Nat} {w0 w w' : World} {Rs : List Res} {e : TypeId} {v v' : Value} {n size n' : Nat} {xs xs' : List Value}
theorem St.ownM (h : St lo w0 w (ownM e size v n xs :: Rs)) : OwnsM w e size v n xs := by
  obtain ⟨_, _, F, V, h1, _⟩ := h
  exact h1.1
theorem St.shiftM (h : St lo w0 w (Go.Proofs.Ytnlpakalcckaiaa.ownM e size v n xs :: Rs)) (ho : OwnsM w' e size v' n' xs') (hg : w.grownBy w' v.ownBlock) (hat : v'.ownBlock = v.ownBlock ∨ v'.ownBlock = some w.heap.size) : St lo w0 w' (Go.Proofs.Ytnlpakalcckaiaa.ownM e size v' n' xs' :: Rs) := by
  obtain ⟨F, h1, h2, h3⟩ := h.open
  have hm : Mod F w w' := (Mod.refl F w).grown hg (fun k hk _ => h1.2.1 k hk)
  refine h3 (F' := fun k => (F k ∨ w.heap.size ≤ k) ∧ k < w'.heap.size) _ hm ⟨ho, fun k hk => ⟨?_, ho.lt k hk⟩, fun k hk => hk.2⟩ (fun k hk => hk.1)
  rcases hat with e | e
  · exact .inl (h1.2.1 k (by rw [← e]; exact hk))
  · rw [e] at hk
    injection hk with hk
    subst hk
    exact .inr (Nat.le_refl _)
theorem St.newM (h : St lo w0 w Rs) (hb : Below w.heap.size w w') (ho : OwnsM w' e size v n xs) (hn : ∀ k, v.ownBlock = some k → w.heap.size ≤ k) : St lo w0 w' (Go.Proofs.Ytnlpakalcckaiaa.ownM e size v n xs :: Rs) :=
  h.new (F := fun k => v.ownBlock = some k) hb ⟨ho, fun k hk => hk, fun k hk => ho.lt k hk⟩ hn
/-- one element more, in the block just laid -/
theorem appendOM {P : Program} {ops : Array Oper} {rest : List Oper} {o : Oper} {a : Act} {Q : Exit → Act → World → Prop} (t : TypeId) {z : Value} {bytes : Nat} {w : World} {u : Value} {te : TypeId}
    (h : St lo w0 w (Go.Proofs.Ytnlpakalcckaiaa.ownM e 1 v n xs :: Rs)) (ht : P.underlying t = some (.slice e)) (hi : (P.info? e).map (fun i => (i.zero, i.size, i.bytes)) = some (some z, 1, bytes)) (hzs : z.cells.size = 1)
    (hgd : o.guard = none) (s x : Operand) (ho : o.op = .call { callee := .builtin .append, args := #[s, x], argTypes := #[t, t] })
    (hs : a.eval s = v) (hx : a.eval x = .slice (some ⟨w.heap.size, 0, none⟩) 1 1) (hu : u.oneCell' = true) (h63 : n + 1 ≤ maxLen) (hbytes : (n + 1) * bytes ≤ 140737488355328)
    (hk : ∀ v' w', St lo w0 w' (Go.Proofs.Ytnlpakalcckaiaa.ownM e 1 v' (n + 1) (xs ++ [u]) :: Rs) → wpList P ops Q rest (a.put o.dst v') w') : wpList P ops Q (o :: rest) a (w.alloc (.cells #[u] te)) := by
  obtain ⟨i, hi', i1, i2, i3⟩ := info_parts hi
  refine wpList_plain hgd fun K hK => ?_
  have h2 := h.alloc0 (.cells #[u] te)
  obtain ⟨v', w', hr, r1, r2, r3⟩ := h2.ownM.append (P := P) t o.type i z bytes ht hi' i1 i2 i3 hzs (by decide) ⟨w.heap.size, 0, none⟩ 1 1 [u] rfl (fun j y hj => by
    match j, hj with
    | 0, hj => simp at hj; subst hj; exact (Blk.new w te #[_]).cell 0) (by intro y hy; simp at hy; subst hy; exact hu) h63 hbytes
  unfold Oper.wp execOp
  simp only [ho, resolve, invoke, builtin, Sem.run_bind, Sem.run_pure, Result.andThen_ok, List.map_toArray, List.map_cons, List.map_nil, hs, hx, hr]
  exact hK _ _ (hk v' w' (h2.shiftM r1 r2 r3))
end
theorem conv_ownM {P : Program} (src dst e : TypeId) (hs : P.underlying src = some (.slice e)) (he : P.underlying e = some (.int .u8)) (hd : P.underlying dst = some .string)
    (w : World) (v : Value) (n : Nat) (l : List UInt8) (hown : OwnsM w e 1 v n (vals l)) : (convert src dst v).run P w = .ok (.string ⟨l.toArray⟩) w := by
  have hl : l.length = n := by simpa [vals] using hown.1
  rcases hown.2 with ⟨rfl, rfl⟩ | ⟨g, cap, cur, fr, rfl, hg, _⟩
  · have : l = [] := List.eq_nil_of_length_eq_zero hl
    subst this
    exact run_convert_bytes_nil w src e hs he 0 0 dst hd
  · subst hl
    refine run_convert_bytes_back w src dst e ⟨g, 0, none⟩ cap l hs he hd fun j hj => ?_
    rw [Addr.add_lit, Nat.zero_add]
    exact hown.cells (g := g) rfl j (.int .u8 (l[j].toNat : Int)) (by simp [vals, hj])
/-- the bytes of a string, as a row of the call's own -/
theorem bytes_ownM {P : Program} (src dst e : TypeId) (hs : P.underlying src = some .string) (hd : P.underlying dst = some (.slice e)) (he : P.underlying e = some (.int .u8)) {lo : Nat} {w0 w : World} {Rs : List Res} (h : St lo w0 w Rs) (s : List UInt8) (hl : s.length ≤ maxLen) :
    ∃ v w', (convert src dst (.string ⟨s.toArray⟩)).run P w = .ok v w' ∧ (∃ c, v = .slice (some ⟨w.heap.size, 0, none⟩) s.length c) ∧ St lo w0 w' (ownM e 1 v s.length (vals s) :: Rs) := by
  have hr := run_bytes_of_string (P := P) w src dst e ⟨s.toArray⟩ hs hd he
  have hsz : (⟨s.toArray⟩ : ByteArray).size = s.length := bytes_size s
  rw [hsz] at hr
  refine ⟨_, _, hr, ⟨_, rfl⟩, h.newM ((Below.refl _ w).drew.alloc (Nat.le_refl _) _) ⟨by simp [vals], .inr ⟨w.heap.size, _, _, _, rfl, heap_alloc_new w.drew _, ?_, grownCap_ge w _ _ e, grownCap_le_maxLen w _ _ e hl, ?_, ?_⟩⟩ (fun k hk => by simp [Value.ownBlock] at hk; omega)⟩
  · intro j hj h2
    have := h2.1
    simp only at this
    omega
  · have hge := grownCap_ge w s.length 0 e
    simp [bytesRow]
    omega
  · have hge := grownCap_ge w s.length 0 e
    simp [bytesRow, vals]
end Go.Proofs.Ytnlpakalcckaiaa
/-
  The padding of the reference's SHA-256. Conditions: at most 2^39 bytes.
-/
namespace Go.Proofs.Ytnlpakalcckaiaa
set_option linter.unusedVariables false
open Go.RowKit

def slLen : Value → Nat
  | .slice _ n _ => n
  | _ => 0
theorem ownM_form {w : World} {e : TypeId} {size : Nat} {v : Value} {n : Nat} {xs : List Value} (h : OwnsM w e size v n xs) : ∃ A c, v = .slice A n c := by
  rcases h.2 with ⟨rfl, rfl⟩ | ⟨g, cap, cur, fr, rfl, _⟩
  · exact ⟨none, 0, rfl⟩
  · exact ⟨_, cap, rfl⟩
end Go.Proofs.Ytnlpakalcckaiaa
/-
  The digest of the reference's SHA-256. Conditions: at most 2^39 bytes.
-/
namespace Go.Proofs.Ytnlpakalcckaiaa
set_option linter.unusedVariables false
open Go.RowKit

end Go.Proofs.Ytnlpakalcckaiaa
/-
  Plain mathematics of hexadecimal digits. Conditions: none.
-/
namespace Go.Proofs.Ytnlpakalcckaiaa.Sh
set_option linter.unusedVariables false

def digs : Str := [48, 49, 50, 51, 52, 53, 54, 55, 56, 57, 97, 98, 99, 100, 101, 102]
def hexD (n : Nat) : UInt8 := digs.getD n 0
def hex (s : Str) : Str := s.flatMap fun x => [hexD (x.toNat / 16), hexD (x.toNat % 16)]
def dig (c : UInt8) : Int := Go.Lib.indexByte digs c
theorem hex_length : ∀ (s : Str), (hex s).length = 2 * s.length
  | [] => rfl
  | x :: s => by
    have : hex (x :: s) = [hexD (x.toNat / 16), hexD (x.toNat % 16)] ++ hex s := rfl
    rw [this, List.length_append, hex_length s]
    simp
    omega
theorem hex_take (s : Str) (k : Nat) (h : k < s.length) : hex (s.take (k + 1)) = hex (s.take k) ++ [hexD (s[k].toNat / 16), hexD (s[k].toNat % 16)] := by
  unfold hex
  rw [List.take_succ_eq_append_getElem h, List.flatMap_append]
  simp only [List.flatMap_cons, List.flatMap_nil, List.append_nil]
/-- what a digit is, by its byte -/
def dig' (c : Nat) : Int := if 48 ≤ c ∧ c ≤ 57 then (c : Int) - 48 else if 97 ≤ c ∧ c ≤ 102 then (c : Int) - 97 + 10 else -1
theorem dig_eq : ∀ c : UInt8, dig c = dig' c.toNat := by
  intro c
  have h : ∀ n : Fin 256, dig (UInt8.ofNat n.val) = dig' n.val := by decide +kernel
  have := h ⟨c.toNat, c.toNat_lt⟩
  simpa using this
theorem dig_hexD : ∀ n, n < 16 → dig (hexD n) = (n : Int) := by decide +kernel
theorem dig_bounds (c : UInt8) : -1 ≤ dig c ∧ dig c ≤ 15 := by
  rw [dig_eq]
  unfold dig'
  split
  · omega
  · split <;> omega
/-- the bytes of the digits, from the left -/
def byteOf (s : Str) (i : Nat) : UInt8 := UInt8.ofNat (16 * (dig (s.getD (2 * i) 0)).toNat + (dig (s.getD (2 * i + 1) 0)).toNat)
def unhex (s : Str) (n : Nat) : Str := (List.range n).map (byteOf s)
theorem unhex_succ (s : Str) (n : Nat) : unhex s (n + 1) = unhex s n ++ [byteOf s n] := by simp [unhex, List.range_succ]
theorem unhex_length (s : Str) (n : Nat) : (unhex s n).length = n := by simp [unhex]
/-- all digits are digits -/
def good (s : Str) : Bool := s.length == 64 && s.all fun c => decide (0 ≤ dig c)
theorem good_of (s : Str) (h : s.length = 64) (hd : ∀ j, j < 64 → 0 ≤ dig (s.getD j 0)) : good s = true := by
  unfold good
  simp only [h, beq_self_eq_true, Bool.true_and, List.all_eq_true, decide_eq_true_eq]
  intro c hc
  obtain ⟨j, hj, rfl⟩ := List.getElem_of_mem hc
  have := hd j (by omega)
  rwa [List.getD_eq_getElem?_getD, List.getElem?_eq_getElem hj] at this
theorem bad_len (s : Str) (h : s.length ≠ 64) : good s = false := by
  unfold good
  simp [h]
theorem bad_at (s : Str) (h : s.length = 64) (j : Nat) (hj : j < 64) (hd : dig (s.getD j 0) < 0) : good s = false := by
  unfold good
  rw [Bool.and_eq_false_iff]
  right
  rw [List.all_eq_false]
  refine ⟨s[j]'(by omega), List.getElem_mem _, ?_⟩
  rw [List.getD_eq_getElem?_getD, List.getElem?_eq_getElem (by omega)] at hd
  simp only [Option.getD_some] at hd
  simp only [decide_eq_true_eq]
  omega
/-- the cells of a digest after i digits -/
def dn (s : Str) (i : Nat) : Nat := (dig (s.getD i 0)).toNat
def cellN (s : Str) (i j : Nat) : Nat := if i ≤ 2 * j then 0 else if i = 2 * j + 1 then dn s (2 * j) else 16 * dn s (2 * j) + dn s (2 * j + 1)
def half (s : Str) (i : Nat) : Str := (List.range 32).map fun j => UInt8.ofNat (cellN s i j)
theorem half_length (s : Str) (i : Nat) : (half s i).length = 32 := by simp [half]
theorem half_zero (s : Str) : half s 0 = List.replicate 32 0 := by
  have : ∀ j, cellN s 0 j = 0 := fun j => by unfold cellN; rw [if_pos (by omega)]
  unfold half
  simp only [this]
  rfl
theorem half_full (s : Str) : half s 64 = unhex s 32 := by
  unfold half unhex
  apply List.map_congr_left
  intro j hj
  have := List.mem_range.1 hj
  unfold cellN byteOf dn
  rw [if_neg (by omega), if_neg (by omega)]
theorem dn_lt (s : Str) (i : Nat) : dn s i < 16 := by
  have := (dig_bounds (s.getD i 0)).2
  unfold dn
  omega
theorem cellN_next (s : Str) (i : Nat) : cellN s (i + 1) (i / 2) = 16 * cellN s i (i / 2) + dn s i := by
  by_cases h : i % 2 = 0
  · have e : 2 * (i / 2) = i := by omega
    unfold cellN
    rw [if_neg (by omega), if_pos (by omega), if_pos (by omega), e]
    omega
  · have e : 2 * (i / 2) + 1 = i := by omega
    unfold cellN
    rw [if_neg (by omega), if_neg (by omega), if_neg (by omega), if_pos (by omega), e]
theorem cellN_lt (s : Str) (i : Nat) : cellN s i (i / 2) < 16 := by
  unfold cellN
  have := dn_lt s (2 * (i / 2))
  by_cases h : i ≤ 2 * (i / 2)
  · rw [if_pos h]; omega
  · rw [if_neg h, if_pos (by omega)]; exact this
theorem half_get (s : Str) (i j : Nat) (h : j < 32) : (half s i).getD j 0 = UInt8.ofNat (cellN s i j) := by
  simp [half, List.getD_eq_getElem?_getD, h]
theorem half_set (s : Str) (i : Nat) (h : i < 64) : (half s i).set (i / 2) (UInt8.ofNat (cellN s (i + 1) (i / 2))) = half s (i + 1) := by
  apply List.ext_getElem
  · simp [half]
  · intro j h1 h2
    rw [List.getElem_set]
    by_cases e : i / 2 = j
    · subst e
      simp [half]
    · rw [if_neg e]
      simp only [half, List.getElem_map, List.getElem_range]
      congr 1
      unfold cellN
      by_cases h1 : i ≤ 2 * j
      · rw [if_pos h1]
        by_cases h2 : i + 1 ≤ 2 * j
        · rw [if_pos h2]
        · omega
      · rw [if_neg h1, if_neg (by omega : ¬ i + 1 ≤ 2 * j), if_neg (by omega : ¬ i = 2 * j + 1), if_neg (by omega : ¬ i + 1 = 2 * j + 1)]
end Go.Proofs.Ytnlpakalcckaiaa.Sh
/-
  Hexadecimal digits of a string, in the program and in the reference. Conditions: at most 2^30 bytes.
-/
namespace Go.Proofs.Ytnlpakalcckaiaa
set_option linter.unusedVariables false
open Go.RowKit

theorem hex_at (n : Nat) (h : n < 16) : ∀ hh, (⟨#[48, 49, 50, 51, 52, 53, 54, 55, 56, 57, 97, 98, 99, 100, 101, 102]⟩ : ByteArray)[n]'hh = Sh.hexD n := by
  intro hh
  have : ∀ m : Fin 16, (⟨#[48, 49, 50, 51, 52, 53, 54, 55, 56, 57, 97, 98, 99, 100, 101, 102]⟩ : ByteArray)[m.val]'(by have := m.isLt; exact this) = Sh.hexD m.val := by decide
  exact this ⟨n, h⟩
theorem at_byte (s : Sh.Str) (k : Nat) (h : k < s.length) : ∀ hh, (⟨s.toArray⟩ : ByteArray)[k]'hh = s[k] := fun _ => rfl
theorem and15 (x : UInt8) : bits .and .u8 (x.toNat : Int) 15 = ((x.toNat % 16 : Nat) : Int) := by
  have := x.toNat_lt
  rw [show (15 : Int) = ((15 : Nat) : Int) from rfl, u8_and_nat _ _ (by omega) (by decide), show (15 : Nat) = 2 ^ 4 - 1 from rfl, Nat.and_two_pow_sub_one_eq_mod]
set_option maxRecDepth 20000 in
set_option maxHeartbeats 2000000 in
theorem hex_spec (s : Sh.Str) (hs : s.length ≤ 1073741824) (w : World) : Calls Try.prog 39 #[.string ⟨s.toArray⟩] w fun e w' => e = .returned (.string ⟨(Sh.hex s).toArray⟩) ∧ Below w.heap.size w w' := by
  obtain ⟨i1, hi1, hy0, hy1, hy2⟩ := info_parts info_u8
  obtain ⟨W, hr, ho, hg⟩ := run_make_own (P := Try.prog) w w.heap.size 41 5 i1 (.int .u8 0) 1 Try.underlying41 hi1 hy0 hy1 .i64 .i64 (2 * s.length) (by rw [hy2]; omega) (by unfold maxLen; omega) (Nat.le_refl _)
  have h1 : St w.heap.size w W (ownR 5 1 (.slice (some ⟨w.heap.size, 0, none⟩) 0 (2 * s.length)) 0 (vals []) :: []) := (St.nil w).new_own ⟨hg.os, hg.tape, hg.output, hg.size, fun k hk => hg.block k hk (by simp)⟩ ho
  rw [show ((2 * s.length : Nat) : Int) = 2 * (s.length : Int) from by omega] at hr
  clear hi1 hy0 hy1 hy2 ho hg
  go_enter Try.func39, Try.ntmps39
  go_wp2
  clear hr
  go_loopw [3, 11] (fun v i wr => ∃ (k : Nat) (v' : Value), k ≤ s.length ∧ i = .int .i64 k ∧ v' = v ∧ St w.heap.size w wr (ownR 5 1 v' (2 * k) (vals (Sh.hex (s.take k))) :: [])) (fun _ i _ => s.length - (intOf i).toNat)
  case atStart => exact ⟨0, _, by omega, rfl, rfl, h1⟩
  case round =>
    clear h1
    obtain ⟨k, v, hk, rfl, rfl, h⟩ := hrel
    by_cases hlt : k < s.length
    · have hk1 : (k : Int) < (s.length : Int) := by omega
      have hk0 : (0 : Int) ≤ (k : Int) := by omega
      have hnx := Sh.hex_take s k hlt
      obtain ⟨x, hx⟩ : ∃ x, s[k] = x := ⟨_, rfl⟩
      have hat : ∀ hh, (⟨s.toArray⟩ : ByteArray)[k]'hh = x := fun hh => (at_byte s k hlt hh).trans hx
      rw [hx] at hnx
      have hxl := x.toNat_lt
      obtain ⟨n1, hn1⟩ : ∃ n, x.toNat / 16 = n := ⟨_, rfl⟩
      obtain ⟨n2, hn2⟩ : ∃ n, x.toNat % 16 = n := ⟨_, rfl⟩
      have e1 : (x.toNat : Int) / 16 = (n1 : Int) := by omega
      have e2 : bits .and .u8 (x.toNat : Int) 15 = (n2 : Int) := by rw [and15, hn2]
      have e3 : (x.toNat : Int).tmod 16 = (n2 : Int) := by rw [Int.tmod_eq_emod_of_nonneg (by omega)]; omega
      have e4 : (x.toNat : Int) % 16 = (n2 : Int) := by omega
      have e5 : (x.toNat : Int).tdiv 16 = (n1 : Int) := by rw [Int.tdiv_eq_ediv_of_nonneg (by omega)]; omega
      have m1 : (n1 : Int) < 16 := by omega
      have m2 : (n2 : Int) < 16 := by omega
      have p1 : (0 : Int) ≤ (n1 : Int) := by omega
      have p2 : (0 : Int) ≤ (n2 : Int) := by omega
      have w1 : IntKind.u8.wrap (n1 : Int) = (n1 : Int) := by rw [IntKind.wrap_u8]; omega
      have w2 : IntKind.u8.wrap (n2 : Int) = (n2 : Int) := by rw [IntKind.wrap_u8]; omega
      have d1 := hex_at n1 (by omega)
      have d2 := hex_at n2 (by omega)
      rw [hn1, hn2] at hnx
      generalize Sh.hexD n1 = z1 at d1 hnx
      generalize Sh.hexD n2 = z2 at d2 hnx
      have HX := Lib.hid hnx
      clear hnx hn1 hn2 hx hxl
      have b2 : 2 * k + 2 ≤ maxLen := by unfold maxLen; omega
      have b1 : (2 * k + 2) * 1 ≤ 140737488355328 := by omega
      go_wp2_with fail
      refine wp_region_noPanic ?_
      refine wp_region_held_drew (S := fun w' => w.heap.size ≤ w'.heap.size) (by kernel_rfl) h.size (fun hHeld => ?_)
      refine wpAnyH_take (i := 0) (oi := ⟨some 14, _, _, _, _, _⟩) (v := ?_) rfl (by kernel_rfl) (by kernel_rfl) (by kernel_rfl) (fun _ _ _ h => h) (Or.inl ⟨by rfl, ?_⟩) hHeld ?_
      rotate_left 1
      · intro w hSw; go_simp; all_goals with_reducible rfl
      simp only [Act.put, List.setIfInBounds_toArray, List.set_cons_zero, List.set_cons_succ]
      refine wpAnyH_take (i := 1) (oi := ⟨some 15, _, _, _, _, _⟩) (v := ?_) rfl (by kernel_rfl) (by kernel_rfl) (by kernel_rfl) (fun _ _ _ h => h) (Or.inl ⟨by rfl, ?_⟩) hHeld ?_
      rotate_left 1
      · intro w hSw; go_simp; all_goals with_reducible rfl
      simp only [Act.put, List.setIfInBounds_toArray, List.set_cons_zero, List.set_cons_succ]
      refine wpAnyH_take (i := 2) (oi := ⟨some 16, _, _, _, _, _⟩) (v := ?_) rfl (by kernel_rfl) (by kernel_rfl) (by kernel_rfl) (fun _ _ _ h => h) (Or.inl ⟨by rfl, ?_⟩) hHeld ?_
      rotate_left 1
      · intro w hSw; go_simp; all_goals with_reducible rfl
      simp only [Act.put, List.setIfInBounds_toArray, List.set_cons_zero, List.set_cons_succ]
      refine wpAnyH_take (i := 3) (oi := ⟨some 17, _, _, _, _, _⟩) (v := ?_) rfl (by kernel_rfl) (by kernel_rfl) (by kernel_rfl) (fun _ _ _ h => h) (Or.inl ⟨by rfl, ?_⟩) hHeld ?_
      rotate_left 1
      · intro w hSw; go_simp; all_goals with_reducible rfl
      simp only [Act.put, List.setIfInBounds_toArray, List.set_cons_zero, List.set_cons_succ]
      refine wpAnyH_take (i := 4) (oi := ⟨some 18, _, _, _, _, _⟩) (v := ?_) rfl (by kernel_rfl) (by kernel_rfl) (by kernel_rfl) (fun _ _ _ h => h) (Or.inl ⟨by rfl, ?_⟩) hHeld ?_
      rotate_left 1
      · intro w hSw; go_simp; all_goals with_reducible rfl
      simp only [Act.put, List.setIfInBounds_toArray, List.set_cons_zero, List.set_cons_succ]
      refine wpAnyH_take (i := 5) (oi := ⟨some 19, _, _, _, _, _⟩) (v := ?_) rfl (by kernel_rfl) (by kernel_rfl) (by kernel_rfl) (fun _ _ _ h => h) (Or.inl ⟨by rfl, ?_⟩) hHeld ?_
      rotate_left 1
      · intro w hSw; go_simp; all_goals with_reducible rfl
      simp only [Act.put, List.setIfInBounds_toArray, List.set_cons_zero, List.set_cons_succ]
      refine wpAnyH_take (i := 6) (oi := ⟨some 20, _, _, _, _, _⟩) (v := ?_) rfl (by kernel_rfl) (by kernel_rfl) (by kernel_rfl) (fun _ _ _ h => h) (Or.inl ⟨by rfl, ?_⟩) hHeld ?_
      rotate_left 1
      · intro w hSw; go_simp; all_goals with_reducible rfl
      simp only [Act.put, List.setIfInBounds_toArray, List.set_cons_zero, List.set_cons_succ]
      refine wpAnyH_take (i := 7) (oi := ⟨some 21, _, _, _, _, _⟩) (v := ?_) rfl (by kernel_rfl) (by kernel_rfl) (by kernel_rfl) (fun _ _ _ h => h) (Or.inl ⟨by rfl, ?_⟩) hHeld ?_
      rotate_left 1
      · intro w hSw; go_simp; all_goals with_reducible rfl
      simp only [Act.put, List.setIfInBounds_toArray, List.set_cons_zero, List.set_cons_succ]
      refine wpAnyH_take (i := 8) (oi := ⟨some 22, _, _, _, _, _⟩) (v := ?_) rfl (by kernel_rfl) (by kernel_rfl) (by kernel_rfl) (fun _ _ _ h => h) (Or.inl ⟨by rfl, ?_⟩) hHeld ?_
      rotate_left 1
      · intro w hSw; go_simp; all_goals with_reducible rfl
      simp only [Act.put, List.setIfInBounds_toArray, List.set_cons_zero, List.set_cons_succ]
      refine wpAnyH_take (i := 9) (oi := ⟨some 23, _, _, _, _, _⟩) (v := ?_) rfl (by kernel_rfl) (by kernel_rfl) (by kernel_rfl) (fun _ _ _ h => h) (Or.inl ⟨by rfl, ?_⟩) hHeld ?_
      rotate_left 1
      · intro w hSw; go_simp; all_goals with_reducible rfl
      simp only [Act.put, List.setIfInBounds_toArray, List.set_cons_zero, List.set_cons_succ]
      refine wpAnyH_take (i := 10) (oi := ⟨some 24, _, _, _, _, _⟩) (v := ?_) rfl (by kernel_rfl) (by kernel_rfl) (by kernel_rfl) (fun _ _ _ h => h) (Or.inl ⟨by rfl, ?_⟩) hHeld ?_
      rotate_left 1
      · intro w hSw; go_simp; all_goals with_reducible rfl
      simp only [Act.put, List.setIfInBounds_toArray, List.set_cons_zero, List.set_cons_succ]
      refine wpAnyH_ready (rs := [11]) (by kernel_rfl) (by simp) ?_
      refine AllReadyH.cons (o := ⟨some 25, _, _, _, _, _⟩) rfl (fun K hK => ?_) AllReadyH.nil
      go_simp
      refine hK.out _ _ (h.alloc0 _).size (fun hHeld2 => ?_)
      clear hK K
      try simp only [Act.put, List.setIfInBounds_toArray, List.set_cons_zero, List.set_cons_succ]
      refine wpAnyH_ready (rs := [12]) (by kernel_rfl) (by simp) ?_
      refine AllReadyH.cons (o := ⟨some 26, _, _, _, _, _⟩) rfl (fun K hK => ?_) AllReadyH.nil
      refine stepN 41 #[.int .u8 (z1.toNat : Int), .int .u8 (z2.toNat : Int)] h Try.underlying41 info_u8 rfl _ _ (by rfl) (by rfl) (by rfl) (by rfl) rfl (Nat.succ_pos 1) (vals_one [z1, z2]) b2 b1 ?_
      intro gg cap w9 h8 _
      refine hK.out _ _ h8.size (fun hHeld3 => ?_)
      clear hK K
      try simp only [Act.put, List.setIfInBounds_toArray, List.set_cons_zero, List.set_cons_succ]
      refine wpAnyH_take (i := 13) (oi := ⟨some 3, _, _, _, _, _⟩) (v := ?_) rfl (by kernel_rfl) (by kernel_rfl) (by kernel_rfl) (fun _ _ _ h => h) (Or.inl ⟨by rfl, ?_⟩) hHeld3 ?_
      rotate_left 1
      · intro w hSw; go_simp; all_goals with_reducible rfl
      simp only [Act.put, List.setIfInBounds_toArray, List.set_cons_zero, List.set_cons_succ]
      refine wpAnyH_done (by kernel_rfl) ?_ _
      refine NoPanic.normal ?_
      clear hHeld hHeld2 hHeld3 hat d1 d2
      go_wp2
      go_roundw
      case rel =>
        refine ⟨k + 1, _, by omega, by go_num, rfl, ?_⟩
        rw [HX.out, vals_append]
        exact h8
      case measure => simp [intOf]; omega
    · obtain rfl : k = s.length := by omega
      rw [List.take_length] at h
      have hge : decide ((s.length : Int) < (s.length : Int)) = false := by simp
      have hcv := conv_own (P := Try.prog) 41 9 5 Try.underlying41 Try.underlying5 Try.underlying9 wr 0 v (2 * s.length) (Sh.hex s) h.own
      have HH := Lib.hid h.below
      clear h
      obtain ⟨Z, hZ⟩ : ∃ Z, Sh.hex s = Z := ⟨_, rfl⟩
      rw [hZ] at hcv
      have HZ := Lib.hid hZ
      clear hZ
      go_wp2
      go_ret
      exact ⟨by rw [HZ.out]; rfl, HH.out⟩
end Go.Proofs.Ytnlpakalcckaiaa
/-
  SHA-256 as the kernel reckons it fast: a block's rounds in passing style over naturals, each value forced; and that this is the block of the plain definitions. Conditions: words below 2^32.
-/
namespace Go.Proofs.Ytnlpakalcckaiaa.Sh
set_option linter.unusedVariables false

def force {α : Type} (n : Nat) (f : Nat → α) : α := match n with | 0 => f 0 | m + 1 => f (Nat.succ m)
theorem force_eq {α : Type} (n : Nat) (f : Nat → α) : force n f = f n := by cases n <;> rfl
def fS1 (y : Nat) : Nat := Nat.xor (Nat.xor (Nat.shiftRight y 6) (Nat.shiftRight y 11)) (Nat.shiftRight y 25)
def fS0 (y : Nat) : Nat := Nat.xor (Nat.xor (Nat.shiftRight y 2) (Nat.shiftRight y 13)) (Nat.shiftRight y 22)
def fs0 (y x : Nat) : Nat := Nat.xor (Nat.mod (Nat.xor (Nat.shiftRight y 7) (Nat.shiftRight y 18)) 4294967296) (Nat.shiftRight x 3)
def fs1 (y x : Nat) : Nat := Nat.xor (Nat.mod (Nat.xor (Nat.shiftRight y 17) (Nat.shiftRight y 19)) 4294967296) (Nat.shiftRight x 10)
/-- the words in passing: what follows is called with the eight words -/
noncomputable def run {α : Type} (K : Nat → Nat → Nat → Nat → Nat → Nat → Nat → Nat → α) (l : List Nat) : Nat → Nat → Nat → Nat → Nat → Nat → Nat → Nat → Nat → Nat → Nat → Nat → Nat → Nat → Nat → Nat → Nat → Nat → Nat → Nat → Nat → Nat → Nat → Nat → α :=
  List.rec (motive := fun _ => Nat → Nat → Nat → Nat → Nat → Nat → Nat → Nat → Nat → Nat → Nat → Nat → Nat → Nat → Nat → Nat → Nat → Nat → Nat → Nat → Nat → Nat → Nat → Nat → α) (fun _ _ _ _ _ _ _ _ _ _ _ _ _ _ _ _ a b c d e f g h => K a b c d e f g h)
   (fun k _ ih => fun w0 w1 w2 w3 w4 w5 w6 w7 w8 w9 w10 w11 w12 w13 w14 w15 a b c d e f g h =>
    force (Nat.add (Nat.add (Nat.add h (Nat.mod (fS1 (Nat.mul e 4294967297)) 4294967296)) (Nat.xor g (Nat.land e (Nat.xor f g)))) (Nat.add k w0)) fun t1 =>
    force (Nat.mod (Nat.add t1 (Nat.add (Nat.mod (fS0 (Nat.mul a 4294967297)) 4294967296) (Nat.xor (Nat.land a (Nat.xor b c)) (Nat.land b c)))) 4294967296) fun a' =>
    force (Nat.mod (Nat.add d t1) 4294967296) fun e' =>
    force (Nat.mod (Nat.add (Nat.add (fs1 (Nat.mul w14 4294967297) w14) w9) (Nat.add (fs0 (Nat.mul w1 4294967297) w1) w0)) 4294967296) fun w16 =>
    ih w1 w2 w3 w4 w5 w6 w7 w8 w9 w10 w11 w12 w13 w14 w15 w16 a' a b c e' e f g) l
theorem run_cons {α : Type} (K : Nat → Nat → Nat → Nat → Nat → Nat → Nat → Nat → α) (k : Nat) (l : List Nat) (w0 w1 w2 w3 w4 w5 w6 w7 w8 w9 w10 w11 w12 w13 w14 w15 a b c d e f g h : Nat) : run K (k :: l) w0 w1 w2 w3 w4 w5 w6 w7 w8 w9 w10 w11 w12 w13 w14 w15 a b c d e f g h =
    force (Nat.add (Nat.add (Nat.add h (Nat.mod (fS1 (Nat.mul e 4294967297)) 4294967296)) (Nat.xor g (Nat.land e (Nat.xor f g)))) (Nat.add k w0)) fun t1 =>
    force (Nat.mod (Nat.add t1 (Nat.add (Nat.mod (fS0 (Nat.mul a 4294967297)) 4294967296) (Nat.xor (Nat.land a (Nat.xor b c)) (Nat.land b c)))) 4294967296) fun a' =>
    force (Nat.mod (Nat.add d t1) 4294967296) fun e' =>
    force (Nat.mod (Nat.add (Nat.add (fs1 (Nat.mul w14 4294967297) w14) w9) (Nat.add (fs0 (Nat.mul w1 4294967297) w1) w0)) 4294967296) fun w16 =>
    run K l w1 w2 w3 w4 w5 w6 w7 w8 w9 w10 w11 w12 w13 w14 w15 w16 a' a b c e' e f g := rfl
theorem zip_take {α β : Type} : ∀ (l : List α) (m : List β), l.zip (m.take l.length) = l.zip m
  | [], _ => by simp
  | _ :: _, [] => by simp
  | x :: l, y :: m => by
    show (x, y) :: l.zip (m.take l.length) = (x, y) :: l.zip m
    rw [zip_take l m]
theorem rot_fast (x n : Nat) (hx : x < 4294967296) (h1 : 1 ≤ n) (h2 : n ≤ 31) : rot x n = (x * 4294967297) / 2 ^ n % 4294967296 := by
  obtain ⟨m, hm⟩ : ∃ m, 32 = n + m := ⟨32 - n, by omega⟩
  have h32 : 4294967296 = 2 ^ n * 2 ^ m := by rw [← Nat.pow_add, ← hm]
  have hnm : 32 - n = m := by omega
  unfold rot
  rw [hnm]
  have hp : 0 < 2 ^ n := Nat.two_pow_pos n
  have hq : x / 2 ^ n < 2 ^ m := by
    rw [Nat.div_lt_iff_lt_mul hp, Nat.mul_comm, ← h32]
    exact hx
  have e0 : (4294967297 : Nat) = 2 ^ n * 2 ^ m + 1 := by rw [← h32]
  have e1 : x * 4294967297 = x + 2 ^ n * (x * 2 ^ m) := by
    rw [e0, Nat.mul_add, Nat.mul_one, Nat.mul_left_comm, Nat.add_comm]
  have e2 : x * 4294967297 / 2 ^ n = x / 2 ^ n + x * 2 ^ m := by rw [e1, Nat.add_mul_div_left _ _ hp]
  have e3 : x * 2 ^ m % 4294967296 = 2 ^ m * (x % 2 ^ n) := by rw [h32, Nat.mul_comm (2 ^ n) (2 ^ m), Nat.mul_comm x, Nat.mul_mod_mul_left]
  have h6 : 2 ^ m * (x % 2 ^ n) + 2 ^ m ≤ 4294967296 := by
    have h5 := Nat.mul_le_mul_left (2 ^ m) (Nat.mod_lt x hp)
    rw [Nat.succ_eq_add_one, Nat.mul_add, Nat.mul_one, Nat.mul_comm (2 ^ m) (2 ^ n), ← h32] at h5
    exact h5
  rw [e2, e3, Nat.or_comm, ← Nat.two_pow_add_eq_or_of_lt hq]
  rw [← Nat.add_mod_mod, e3]
  generalize 2 ^ m * (x % 2 ^ n) = A at h6 ⊢
  generalize x / 2 ^ n = B at hq ⊢
  generalize 2 ^ m = M at hq h6
  rw [Nat.mod_eq_of_lt (by omega)]
  omega
theorem xor_mod32 (a b : Nat) : (a ^^^ b) % 4294967296 = (a % 4294967296) ^^^ (b % 4294967296) := Nat.xor_mod_two_pow (n := 32)
theorem fS1_eq (e : Nat) (he : e < 4294967296) : Nat.mod (fS1 (Nat.mul e 4294967297)) 4294967296 = bS1 e := by
  have a1 := rot_fast e 6 he (by decide) (by decide)
  have a2 := rot_fast e 11 he (by decide) (by decide)
  have a3 := rot_fast e 25 he (by decide) (by decide)
  unfold bS1
  rw [a1, a2, a3]
  show (((e * 4294967297) >>> 6 ^^^ (e * 4294967297) >>> 11) ^^^ (e * 4294967297) >>> 25) % 4294967296 = _
  rw [xor_mod32, xor_mod32, Nat.shiftRight_eq_div_pow, Nat.shiftRight_eq_div_pow, Nat.shiftRight_eq_div_pow]
theorem fS0_eq (e : Nat) (he : e < 4294967296) : Nat.mod (fS0 (Nat.mul e 4294967297)) 4294967296 = bS0 e := by
  have a1 := rot_fast e 2 he (by decide) (by decide)
  have a2 := rot_fast e 13 he (by decide) (by decide)
  have a3 := rot_fast e 22 he (by decide) (by decide)
  unfold bS0
  rw [a1, a2, a3]
  show (((e * 4294967297) >>> 2 ^^^ (e * 4294967297) >>> 13) ^^^ (e * 4294967297) >>> 22) % 4294967296 = _
  rw [xor_mod32, xor_mod32, Nat.shiftRight_eq_div_pow, Nat.shiftRight_eq_div_pow, Nat.shiftRight_eq_div_pow]
theorem fs0_eq (e : Nat) (he : e < 4294967296) : fs0 (Nat.mul e 4294967297) e = ss0 e := by
  have a1 := rot_fast e 7 he (by decide) (by decide)
  have a2 := rot_fast e 18 he (by decide) (by decide)
  unfold ss0
  rw [a1, a2]
  show (((e * 4294967297) >>> 7 ^^^ (e * 4294967297) >>> 18) % 4294967296) ^^^ (e >>> 3) = _
  rw [xor_mod32, Nat.shiftRight_eq_div_pow, Nat.shiftRight_eq_div_pow, Nat.shiftRight_eq_div_pow]
theorem fs1_eq (e : Nat) (he : e < 4294967296) : fs1 (Nat.mul e 4294967297) e = ss1 e := by
  have a1 := rot_fast e 17 he (by decide) (by decide)
  have a2 := rot_fast e 19 he (by decide) (by decide)
  unfold ss1
  rw [a1, a2]
  show (((e * 4294967297) >>> 17 ^^^ (e * 4294967297) >>> 19) % 4294967296) ^^^ (e >>> 10) = _
  rw [xor_mod32, Nat.shiftRight_eq_div_pow, Nat.shiftRight_eq_div_pow, Nat.shiftRight_eq_div_pow]
theorem ch_fast (e f g : Nat) (hg : g < 4294967296) : Nat.xor g (Nat.land e (Nat.xor f g)) = ch e f g := by
  show g ^^^ (e &&& (f ^^^ g)) = (e &&& f) ^^^ ((4294967295 ^^^ e) &&& g)
  apply Nat.eq_of_testBit_eq
  intro i
  have hm : (4294967295 : Nat).testBit i = decide (i < 32) := by rw [show (4294967295 : Nat) = 2 ^ 32 - 1 from rfl, Nat.testBit_two_pow_sub_one]
  simp only [Nat.testBit_xor, Nat.testBit_and, hm]
  by_cases hi : i < 32
  · simp only [hi, decide_true]
    cases g.testBit i <;> cases e.testBit i <;> cases f.testBit i <;> rfl
  · have : g.testBit i = false := Nat.testBit_lt_two_pow (Nat.lt_of_lt_of_le hg (Nat.pow_le_pow_right (show 0 < 2 by decide) (show 32 ≤ i by omega)))
    rw [this]
    cases e.testBit i <;> cases f.testBit i <;> simp
theorem mj_fast (a b c : Nat) : Nat.xor (Nat.land a (Nat.xor b c)) (Nat.land b c) = mj a b c := by
  show (a &&& (b ^^^ c)) ^^^ (b &&& c) = (a &&& b) ^^^ (a &&& c) ^^^ (b &&& c)
  apply Nat.eq_of_testBit_eq
  intro i
  simp only [Nat.testBit_xor, Nat.testBit_and]
  cases a.testBit i <;> cases b.testBit i <;> cases c.testBit i <;> rfl
/-- the last sixteen words alone count -/
theorem nextW_cons (x : Nat) (l : List Nat) (h : 16 ≤ l.length) : nextW (x :: l) = nextW l := by
  unfold nextW
  have g : ∀ k, 1 ≤ k → k ≤ 16 → (x :: l).getD ((x :: l).length - k) 0 = l.getD (l.length - k) 0 := fun k h1 h2 => by
    have : (x :: l).length - k = (l.length - k) + 1 := by simp; omega
    rw [this]
    rfl
  rw [g 2 (by decide) (by decide), g 7 (by decide) (by decide), g 15 (by decide) (by decide), g 16 (by decide) (by decide)]
theorem extend_cons (x : Nat) : ∀ (n : Nat) (l : List Nat), 16 ≤ l.length → extend n (x :: l) = x :: extend n l
  | 0, _, _ => rfl
  | n + 1, l, h => by
    show extend n ((x :: l) ++ [nextW (x :: l)]) = x :: extend n (l ++ [nextW l])
    rw [nextW_cons x l h]
    exact extend_cons x n (l ++ [nextW l]) (by simp; omega)
theorem run_eq {α : Type} (K : Nat → Nat → Nat → Nat → Nat → Nat → Nat → Nat → α) : ∀ (l : List Nat) (w0 w1 w2 w3 w4 w5 w6 w7 w8 w9 w10 w11 w12 w13 w14 w15 : Nat) (s : W8), (∀ x ∈ [w0, w1, w2, w3, w4, w5, w6, w7, w8, w9, w10, w11, w12, w13, w14, w15], x < 4294967296) → s.Ok →
    run K l w0 w1 w2 w3 w4 w5 w6 w7 w8 w9 w10 w11 w12 w13 w14 w15 s.a s.b s.c s.d s.e s.f s.g s.h = (let r := rounds s (l.zip (extend l.length [w0, w1, w2, w3, w4, w5, w6, w7, w8, w9, w10, w11, w12, w13, w14, w15])); K r.a r.b r.c r.d r.e r.f r.g r.h)
  | [], w0, w1, w2, w3, w4, w5, w6, w7, w8, w9, w10, w11, w12, w13, w14, w15, s, _, _ => rfl
  | k :: l, w0, w1, w2, w3, w4, w5, w6, w7, w8, w9, w10, w11, w12, w13, w14, w15, s, hw, hs => by
    have hext : extend (k :: l).length [w0, w1, w2, w3, w4, w5, w6, w7, w8, w9, w10, w11, w12, w13, w14, w15] = w0 :: extend l.length [w1, w2, w3, w4, w5, w6, w7, w8, w9, w10, w11, w12, w13, w14, w15, nextW [w0, w1, w2, w3, w4, w5, w6, w7, w8, w9, w10, w11, w12, w13, w14, w15]] := by
      show extend l.length ([w0, w1, w2, w3, w4, w5, w6, w7, w8, w9, w10, w11, w12, w13, w14, w15] ++ [nextW [w0, w1, w2, w3, w4, w5, w6, w7, w8, w9, w10, w11, w12, w13, w14, w15]]) = _
      exact extend_cons w0 l.length ([w1, w2, w3, w4, w5, w6, w7, w8, w9, w10, w11, w12, w13, w14, w15] ++ [nextW [w0, w1, w2, w3, w4, w5, w6, w7, w8, w9, w10, w11, w12, w13, w14, w15]]) (by simp)
    have hn : nextW [w0, w1, w2, w3, w4, w5, w6, w7, w8, w9, w10, w11, w12, w13, w14, w15] = (ss1 w14 + w9 + ss0 w1 + w0) % 4294967296 := rfl
    have h1 := fS1_eq s.e hs.e
    have h2 := fS0_eq s.a hs.a
    have h3 := fs1_eq w14 (hw w14 (by simp))
    have h4 := fs0_eq w1 (hw w1 (by simp))
    have h5 := ch_fast s.e s.f s.g hs.g
    have h6 := mj_fast s.a s.b s.c
    have e1 : Nat.mod (Nat.add (Nat.add (Nat.add (Nat.add s.h (bS1 s.e)) (ch s.e s.f s.g)) (Nat.add k w0)) (Nat.add (bS0 s.a) (mj s.a s.b s.c))) 4294967296 = (rnd s k w0).a := by
      show (s.h + bS1 s.e + ch s.e s.f s.g + (k + w0) + (bS0 s.a + mj s.a s.b s.c)) % 4294967296 = ((s.h + bS1 s.e + ch s.e s.f s.g + k + w0) % 4294967296 + (bS0 s.a + mj s.a s.b s.c) % 4294967296) % 4294967296
      omega
    have e2 : Nat.mod (Nat.add s.d (Nat.add (Nat.add (Nat.add s.h (bS1 s.e)) (ch s.e s.f s.g)) (Nat.add k w0))) 4294967296 = (rnd s k w0).e := by
      show (s.d + (s.h + bS1 s.e + ch s.e s.f s.g + (k + w0))) % 4294967296 = (s.d + (s.h + bS1 s.e + ch s.e s.f s.g + k + w0) % 4294967296) % 4294967296
      omega
    have e3 : Nat.mod (Nat.add (Nat.add (ss1 w14) w9) (Nat.add (ss0 w1) w0)) 4294967296 = nextW [w0, w1, w2, w3, w4, w5, w6, w7, w8, w9, w10, w11, w12, w13, w14, w15] := by
      rw [hn]
      show (ss1 w14 + w9 + (ss0 w1 + w0)) % 4294967296 = (ss1 w14 + w9 + ss0 w1 + w0) % 4294967296
      congr 1
      omega
    have ih := run_eq K l w1 w2 w3 w4 w5 w6 w7 w8 w9 w10 w11 w12 w13 w14 w15 (nextW [w0, w1, w2, w3, w4, w5, w6, w7, w8, w9, w10, w11, w12, w13, w14, w15]) (rnd s k w0) (fun x hx => by
      simp only [List.mem_cons, List.not_mem_nil, or_false] at hx hw
      rcases hx with hx | hx | hx | hx | hx | hx | hx | hx | hx | hx | hx | hx | hx | hx | hx | hx
      · exact hw x (.inr (.inl hx))
      · exact hw x (.inr (.inr (.inl hx)))
      · exact hw x (.inr (.inr (.inr (.inl hx))))
      · exact hw x (.inr (.inr (.inr (.inr (.inl hx)))))
      · exact hw x (.inr (.inr (.inr (.inr (.inr (.inl hx))))))
      · exact hw x (.inr (.inr (.inr (.inr (.inr (.inr (.inl hx)))))))
      · exact hw x (.inr (.inr (.inr (.inr (.inr (.inr (.inr (.inl hx))))))))
      · exact hw x (.inr (.inr (.inr (.inr (.inr (.inr (.inr (.inr (.inl hx)))))))))
      · exact hw x (.inr (.inr (.inr (.inr (.inr (.inr (.inr (.inr (.inr (.inl hx))))))))))
      · exact hw x (.inr (.inr (.inr (.inr (.inr (.inr (.inr (.inr (.inr (.inr (.inl hx)))))))))))
      · exact hw x (.inr (.inr (.inr (.inr (.inr (.inr (.inr (.inr (.inr (.inr (.inr (.inl hx))))))))))))
      · exact hw x (.inr (.inr (.inr (.inr (.inr (.inr (.inr (.inr (.inr (.inr (.inr (.inr (.inl hx)))))))))))))
      · exact hw x (.inr (.inr (.inr (.inr (.inr (.inr (.inr (.inr (.inr (.inr (.inr (.inr (.inr (.inl hx))))))))))))))
      · exact hw x (.inr (.inr (.inr (.inr (.inr (.inr (.inr (.inr (.inr (.inr (.inr (.inr (.inr (.inr (.inl hx)))))))))))))))
      · exact hw x (.inr (.inr (.inr (.inr (.inr (.inr (.inr (.inr (.inr (.inr (.inr (.inr (.inr (.inr (.inr hx)))))))))))))))
      · rw [hx, hn]; exact Nat.mod_lt _ (show 0 < 4294967296 by decide)) (rnd_ok hs k w0)
    rw [run_cons, force_eq, force_eq, force_eq, force_eq, h1, h2, h3, h4, h5, h6, e1, e2, e3, hext]
    exact ih
/-- a block -/
noncomputable def fblock {α : Type} (K : Nat → Nat → Nat → Nat → Nat → Nat → Nat → Nat → α) (a b c d e f g h w0 w1 w2 w3 w4 w5 w6 w7 w8 w9 w10 w11 w12 w13 w14 w15 : Nat) : α :=
  run (fun a' b' c' d' e' f' g' h' =>
    force (Nat.mod (Nat.add a a') 4294967296) fun a2 => force (Nat.mod (Nat.add b b') 4294967296) fun b2 => force (Nat.mod (Nat.add c c') 4294967296) fun c2 => force (Nat.mod (Nat.add d d') 4294967296) fun d2 =>
    force (Nat.mod (Nat.add e e') 4294967296) fun e2 => force (Nat.mod (Nat.add f f') 4294967296) fun f2 => force (Nat.mod (Nat.add g g') 4294967296) fun g2 => force (Nat.mod (Nat.add h h') 4294967296) fun h2 =>
    K a2 b2 c2 d2 e2 f2 g2 h2) ks w0 w1 w2 w3 w4 w5 w6 w7 w8 w9 w10 w11 w12 w13 w14 w15 a b c d e f g h
theorem fblock_eq {α : Type} (K : Nat → Nat → Nat → Nat → Nat → Nat → Nat → Nat → α) (s : W8) (hs : s.Ok) (b : Str) (w0 w1 w2 w3 w4 w5 w6 w7 w8 w9 w10 w11 w12 w13 w14 w15 : Nat) (hw : words b 16 = [w0, w1, w2, w3, w4, w5, w6, w7, w8, w9, w10, w11, w12, w13, w14, w15]) :
    fblock K s.a s.b s.c s.d s.e s.f s.g s.h w0 w1 w2 w3 w4 w5 w6 w7 w8 w9 w10 w11 w12 w13 w14 w15 = (let r := block s b; K r.a r.b r.c r.d r.e r.f r.g r.h) := by
  have hlt := words_lt b 16
  rw [hw] at hlt
  unfold fblock
  rw [run_eq _ ks w0 w1 w2 w3 w4 w5 w6 w7 w8 w9 w10 w11 w12 w13 w14 w15 s hlt hs]
  have hz : ks.zip (extend ks.length [w0, w1, w2, w3, w4, w5, w6, w7, w8, w9, w10, w11, w12, w13, w14, w15]) = ks.zip (sched b) := by
    have h1 := extend_take 64 [w0, w1, w2, w3, w4, w5, w6, w7, w8, w9, w10, w11, w12, w13, w14, w15] 48 (by decide)
    rw [← hw, words_length] at h1
    unfold sched
    rw [← h1, ← hw]
    show ks.zip (extend 64 (words b 16)) = _
    generalize extend 64 (words b 16) = L
    exact (zip_take ks L).symm
  rw [hz]
  simp only [force_eq]
  unfold block
  generalize rounds s (ks.zip (sched b)) = R
  rfl
end Go.Proofs.Ytnlpakalcckaiaa.Sh
