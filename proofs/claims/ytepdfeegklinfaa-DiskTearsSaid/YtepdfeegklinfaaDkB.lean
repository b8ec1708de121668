/-
  The methods of a disk that turn it: record, Write, forget, Sync, Record, and New. Conditions: a disk has at most 2^40 pending writes and recorded operations.
-/
import Derived.Test.YtepdfeegklinfaaDkA
import Derived.Test.YtepdfeegklinfaaAppend
import Derived.MapKept
import Derived.Deep.RegionHeld3
import Derived.Deep.RegionLaw
import Derived.StillTailTactics
import Derived.Deep.AppendLies
namespace Go.Proofs.Ytepdfeegklinfaa
set_option linter.unusedVariables false
open Go.RowKit Go.ChangeMaps Go.MapKept

/-- 'clear(m)' -/
theorem clear_own {H : Type} {P : Program} {k e : TypeId} {R : Value → Option (DataW H × List MemPlace)} {w : World} {b n : Nat} {D : DataW H} {t ty : TypeId} (h : w.ownsMap P k R b n D) (ht : P.underlying t = some (.map k e)) :
    ∃ w' v, (Builtin.clear_ #[t] ty #[.map (some b)]).run P w = .ok v w' ∧ w'.ownsMap P k R b 0 (.map []) ∧ w.grownBy w' (some b) := by
  obtain ⟨es, clock, hb, F, hs, rfl⟩ := h
  refine ⟨setBlock w b (.map #[] clock), .tuple #[], ?_, ⟨#[], clock, heap_setBlock_same hb _, ⟨by simp, stamped_empty clock, by simp⟩, Nat.le_refl _, rfl⟩, ⟨rfl, rfl, rfl, by simp [setBlock], fun i _ hi => heap_setBlock_other hb _ (fun e => hi (by rw [e]))⟩⟩
  simp [Builtin.clear_, run_underlying ht, MapKept.run_getObj_map hb, MapKept.run_setObj_map _ hb, Result.andThen, setBlock]
theorem wpList_clear_own {H : Type} {P : Program} (w : World) {ops : Array Oper} {rest : List Oper} {o : Oper} {a : Act} {Q : Exit → Act → World → Prop}
    (hg : o.guard = none) (m : Operand) (t : TypeId) (hop : o.op = Op.call { callee := Callee.builtin Builtin.clear, args := #[m], argTypes := #[t] })
    (k e : TypeId) (ht : P.underlying t = some (.map k e)) (R : Value → Option (DataW H × List MemPlace)) (b n : Nat) (D : DataW H) (hm : a.eval m = .map (some b)) (hown : w.ownsMap P k R b n D)
    (hK : ∀ w' v, w'.ownsMap P k R b 0 (.map []) → w.grownBy w' (some b) → wpList P ops Q rest (a.put o.dst v) w') :
    wpList P ops Q (o :: rest) a w := by
  refine wpList_plain hg fun K' hK' => ?_
  obtain ⟨w', v, hrun, r1, r2⟩ := clear_own (ty := o.type) hown ht
  unfold Oper.wp
  simp [execOp, hop, resolve, invoke, builtin, hm, hrun, Result.andThen]
  exact hK' _ _ (hK w' v r1 r2)

/-! ### what a store into the disk's block leaves -/
theorem grow_of {F : Nat → Prop} {w w' : World} {k : Nat} (h : F k) : grow F w w' k := .inl h
theorem grow_lt {F : Nat → Prop} {w w' : World} (hF : ∀ k, F k → k < w.heap.size) (hs : w.heap.size ≤ w'.heap.size) : ∀ k, grow F w w' k → k < w'.heap.size := by
  intro k hk
  rcases hk with hk | hk
  · have := hF k hk; omega
  · exact hk.2
theorem mod_owns_ne {w : World} {d i : Nat} {u : Value} {base : Nat} {e : TypeId} {size : Nat} {v : Value} {n : Nat} {xs : List Value} (ho : w.ownsRow base e size v n xs) (hv : v.ownBlock ≠ some d) : (w.setCell ⟨d, i, none⟩ u).ownsRow base e size v n xs :=
  (mod_set w d i u).owns ho (fun k hk he => hv (by rw [hk, he]))
theorem grown_mod {w w' : World} {b : Nat} (h : w.grownBy w' (some b)) : Mod (fun k => k = b) w w' :=
  ⟨h.os, h.tape, h.output, h.size, fun k hk hn => h.block k hk (fun e => hn (by injection e))⟩
theorem grown_modv {w w' : World} {v : Value} (h : w.grownBy w' v.ownBlock) : Mod (fun k => v.ownBlock = some k) w w' :=
  ⟨h.os, h.tape, h.output, h.size, fun k hk hn => h.block k hk (fun e => hn e.symm)⟩

set_option maxRecDepth 20000 in
set_option maxHeartbeats 1000000 in
theorem forget_spec (F : Nat → Prop) (d : Nat) (S : Dk.Ds) (w : World) (h : Dsk w F d S) :
    Calls Try.prog 41 #[.pointer (some ⟨d, 0, none⟩)] w (DskP F d { S with pend := [] } (.tuple #[]) w) := by
  obtain ⟨m, n, v0, v1, v4, D, h⟩ := h
  have k1 := h.blk.cell 1
  have k2 := h.blk.cell 2
  simp at k1 k2
  have f1 := h.blk.frozen 1
  obtain ⟨hne, n0, n1, n4⟩ := h.ne1
  obtain ⟨q0, q1, q4⟩ := h.ne2
  have hmap : (w.setCell ⟨d, 1, none⟩ (.slice none 0 0)).ownsMap Try.prog 3 (plainElem Try.prog 3) m n D := map_mod h.map (mod_set w d 1 _) (fun e => hne e.symm)
  have H := Lib.hid h; clear h
  go_enter Try.func41, Try.ntmps41
  go_wp2_with ((with_reducible refine wpList_clear_own _ rfl (.tmp 8) 70 rfl 3 3 Try.underlying70 _ m n D rfl hmap ?_); intro w1 v1' hmap1 hg1)
  go_end0
  have h := H.out
  have hm1 : Mod F w w1 := ((mod_set w d 1 (.slice none 0 0)).mono (fun i _ e => by subst e; exact h.fd)).trans ((grown_mod hg1).mono (fun i _ e => by subst e; exact h.fm))
  refine ⟨rfl, ⟨m, 0, v0, .slice none 0 0, v4, .map [], ?_⟩, hm1⟩
  exact { blk := by simpa using (h.blk.set_ 1 (.slice none 0 0)).mod (grown_mod hg1) hne, dur := (grown_mod hg1).owns (mod_owns_ne h.dur n0) (fun k hk he => q0 (by rw [hk, he])), pen := World.ownsRow_nil _ _ _ _, map := hmap1, lat := Dk.latOk_nil, hn := Nat.zero_le _, rcd := (grown_mod hg1).owns (mod_owns_ne h.rcd n4) (fun k hk he => q4 (by rw [hk, he])), fd := .inl h.fd, fm := .inl h.fm, f0 := fun k hk => .inl (h.f0 k hk), f1 := fun k hk => by simp [Value.ownBlock] at hk, f4 := fun k hk => .inl (h.f4 k hk), fb := grow_lt h.fb hm1.size, ok := by intro x hx; simp at hx, small := h.small }

theorem new2 (w : World) (o o' : Obj) : ((w.alloc o).alloc o').drew.heap[w.heap.size + 1]? = some o' := by
  have := heap_alloc_new (w.alloc o) o'
  rw [World.size_alloc] at this
  exact this
theorem ops_snoc (L : List Dk.Op) (o : Dk.Op) : ops (L ++ [o]) = ops L ++ [.int .i64 o.page, .string ⟨o.data.toArray⟩, .bool o.sync] := by simp [ops, opc]
theorem wrs_snoc (P : List Dk.Wr) (p : Nat) (x : Dk.Str) : wrs (P ++ [(p, x)]) = wrs P ++ [.int .i64 p, .string ⟨x.toArray⟩] := by simp [wrs]
theorem info_op : (Try.prog.info? 38).map (fun i => (i.zero, i.size, i.bytes)) = some (some (.agg #[.int .i64 0, .string ⟨#[]⟩, .bool false]), 3, 32) := by kernel_rfl
theorem info_wr : (Try.prog.info? 79).map (fun i => (i.zero, i.size, i.bytes)) = some (some (.agg #[.int .i64 0, .string ⟨#[]⟩]), 2, 24) := by kernel_rfl

theorem own_far {w : World} {b b' : Nat} {e e' : TypeId} {s s' n n' : Nat} {v v' : Value} {xs xs' : List Value} (h : w.ownsRow b e s v n xs) (h' : w.ownsRow b' e' s' v' n' xs') (he : e ≠ e') : ∀ k, v.ownBlock = some k → ¬ v'.ownBlock = some k := by
  intro k hk hk'
  rcases own_ne h h' he with h0 | h0
  · rw [h0] at hk; cases hk
  · exact h0 (hk.trans hk'.symm)
/-- the recorded operations have grown, and lie in field 4 -/
theorem DkV.app4 {F : Nat → Prop} {w w1 : World} {d m n : Nat} {v0 v1 v4 v4' : Value} {D : DataW Unit} {S : Dk.Ds} {R : List Dk.Op} (h : DkV w F d m n v0 v1 v4 D S) (hm : Mod (fun k => v4.ownBlock = some k) w w1)
    (ho : w1.ownsRow 0 38 3 v4' R.length (ops R)) (hv : ∀ k, v4'.ownBlock = some k → v4.ownBlock = some k ∨ w.heap.size ≤ k) :
    DkV (w1.setCell ⟨d, 4, none⟩ v4') (grow F w (w1.setCell ⟨d, 4, none⟩ v4')) d m n v0 v1 v4' D { S with recd := R } ∧ Mod F w (w1.setCell ⟨d, 4, none⟩ v4') := by
  obtain ⟨hne, n0, n1, n4⟩ := h.ne1
  obtain ⟨q0, q1, q4⟩ := h.ne2
  have hd := h.blk.lt
  have nd : v4'.ownBlock ≠ some d := fun e => by rcases hv d e with e | e; exact n4 e; omega
  have hm2 : Mod F w (w1.setCell ⟨d, 4, none⟩ v4') := (hm.mono (fun i _ e => h.f4 i e)).trans ((mod_set w1 d 4 v4').mono (fun i _ e => by subst e; exact h.fd))
  have m4 := map_mod h.map hm (fun e => q4 e)
  refine ⟨?_, hm2⟩
  exact { blk := by simpa using (h.blk.mod hm n4).set_ 4 v4', dur := mod_owns_ne (hm.owns h.dur (own_far h.dur h.rcd (by decide))) n0, pen := mod_owns_ne (hm.owns h.pen (own_far h.pen h.rcd (by decide))) n1, map := map_mod m4 (mod_set w1 d 4 _) (fun e => hne e.symm), lat := h.lat, hn := h.hn, rcd := mod_owns_ne ho nd, fd := .inl h.fd, fm := .inl h.fm, f0 := fun k hk => .inl (h.f0 k hk), f1 := fun k hk => .inl (h.f1 k hk), f4 := fun k hk => by rcases hv k hk with e | e; exact .inl (h.f4 k e); exact .inr ⟨e, by simpa [World.setCell] using (ho.lt k hk).2⟩, fb := grow_lt h.fb hm2.size, ok := h.ok, small := h.small }
/-- the pending writes have grown, and lie in field 1; the map has turned with them -/
theorem DkV.app1 {F : Nat → Prop} {w w1 : World} {d m n : Nat} {v0 v1 v4 v1' : Value} {D : DataW Unit} {S : Dk.Ds} {P : List Dk.Wr} (h : DkV w F d m n v0 v1 v4 D S) (hm : Mod (fun k => k = m ∨ v1.ownBlock = some k) w w1)
    (ho : w1.ownsRow 0 79 2 v1' P.length (wrs P)) (hv : ∀ k, v1'.ownBlock = some k → v1.ownBlock = some k ∨ w.heap.size ≤ k) {n' : Nat} {D' : DataW Unit} (hn' : n' ≤ P.length) (hl : Dk.LatOk D' P)
    (hD : w1.ownsMap Try.prog 3 (plainElem Try.prog 3) m n' D') (hok : Dk.Ok S.dur P) :
    DkV (w1.setCell ⟨d, 1, none⟩ v1') (grow F w (w1.setCell ⟨d, 1, none⟩ v1')) d m n' v0 v1' v4 D' { S with pend := P } ∧ Mod F w (w1.setCell ⟨d, 1, none⟩ v1') := by
  obtain ⟨hne, n0, n1, n4⟩ := h.ne1
  obtain ⟨q0, q1, q4⟩ := h.ne2
  have hd := h.blk.lt
  have nd : v1'.ownBlock ≠ some d := fun e => by rcases hv d e with e | e; exact n1 e; omega
  have hm2 : Mod F w (w1.setCell ⟨d, 1, none⟩ v1') := (hm.mono (fun i _ e => by rcases e with e | e; subst e; exact h.fm; exact h.f1 i e)).trans ((mod_set w1 d 1 v1').mono (fun i _ e => by subst e; exact h.fd))
  have far : ∀ {v : Value} {e : TypeId} {s n : Nat} {xs : List Value}, w.ownsRow 0 e s v n xs → e ≠ 79 → v.ownBlock ≠ some m → ∀ k, v.ownBlock = some k → ¬ (k = m ∨ v1.ownBlock = some k) := by
    intro v e s n xs ho he hvm k hk hor
    rcases hor with e' | e'
    · subst e'; exact hvm hk
    · exact own_far ho h.pen he k hk e'
  refine ⟨?_, hm2⟩
  exact { blk := by simpa using (h.blk.mod hm (by rintro (e | e); exact hne e; exact n1 e)).set_ 1 v1', dur := mod_owns_ne (hm.owns h.dur (far h.dur (by decide) q0)) n0, pen := mod_owns_ne ho nd, map := map_mod hD (mod_set w1 d 1 _) (fun e => hne e.symm), lat := hl, hn := hn', rcd := mod_owns_ne (hm.owns h.rcd (far h.rcd (by decide) q4)) n4, fd := .inl h.fd, fm := .inl h.fm, f0 := fun k hk => .inl (h.f0 k hk), f1 := fun k hk => by rcases hv k hk with e | e; exact .inl (h.f1 k e); exact .inr ⟨e, by simpa [World.setCell] using (ho.lt k hk).2⟩, f4 := fun k hk => .inl (h.f4 k hk), fb := grow_lt h.fb hm2.size, ok := hok, small := h.small }

set_option maxRecDepth 20000 in
set_option maxHeartbeats 1000000 in
theorem record_spec (F : Nat → Prop) (d : Nat) (S : Dk.Ds) (p : Int) (x : Dk.Str) (t : Bool) (w : World) (h : Dsk w F d S) (hR : S.recd.length ≤ 1099511627776) :
    Calls Try.prog 42 #[.pointer (some ⟨d, 0, none⟩), .agg #[.int .i64 p, .string ⟨x.toArray⟩, .bool t]] w (DskP F d { S with recd := Dk.note S ⟨p, x, t⟩ } (.tuple #[]) w) := by
  obtain ⟨m, n, v0, v1, v4, D, h⟩ := h
  have hdl := h.blk.lt
  have k3 := h.blk.cell 3
  have k4 := h.blk.cell 4
  simp at k3 k4
  have f4 := h.blk.frozen 4
  cases hr : S.rc with
  | false =>
    rw [hr] at k3
    have H := Lib.hid (And.intro h hr); clear h hr
    go_enter Try.func42, Try.ntmps42
    go_wp2
    go_end0
    refine ⟨rfl, ?_, (Mod.refl F w).alloc _⟩
    have hn : Dk.note S ⟨p, x, t⟩ = S.recd := by unfold Dk.note; rw [H.out.2]; rfl
    rw [hn, ← H.out.2]
    exact Dsk.wide (Dsk.under ⟨m, n, v0, v1, v4, D, H.out.1⟩ ((Below.refl _ w).alloc (Nat.le_refl _) _)) (fun k hk => .inl hk) (grow_lt H.out.1.fb (by simp))
  | true =>
    rw [hr] at k3
    obtain ⟨i0, hi, hz0, hz1, hz2⟩ := info_parts info_op
    obtain ⟨hne, n0, n1, n4⟩ := h.ne1
    have hown := h.rcd
    have c4'' : ((w.alloc (.cells #[.int .i64 p, .string ⟨x.toArray⟩, .bool t] 38)).alloc (.cells #[.int .i64 p, .string ⟨x.toArray⟩, .bool t] 38)).drew.cell? ⟨d, 4, none⟩ = some v4 := ((h.blk.alloc _).alloc _).cell 4
    have f4'' : ((w.alloc (.cells #[.int .i64 p, .string ⟨x.toArray⟩, .bool t] 38)).alloc (.cells #[.int .i64 p, .string ⟨x.toArray⟩, .bool t] 38)).drew.frozen? ⟨d, 4, none⟩ = false := ((h.blk.alloc _).alloc _).frozen 4
    have H := Lib.hid (And.intro h hr); clear h hr
    have b1 : (S.recd.length + 1) * 32 ≤ 140737488355328 := by omega
    have b2 : S.recd.length + 1 ≤ maxLen := by unfold maxLen; omega
    go_enter Try.func42, Try.ntmps42
    go_wp2_with fail
    have nv4 : some w.heap.size ≠ v4.ownBlock := fun e => by have := (hown.lt _ e.symm).2; omega
    go_region_law (refine step_append_lies _ (by rfl) _ _ _ (by rfl) 0 38 i0 _ 3 32 Try.underlying55 hi hz0 hz1 hz2 rfl (by omega) v4 S.recd.length (ops S.recd) (by rfl) (((hown.alloc _).alloc _).drew) ⟨w.heap.size + 1, 0, none⟩ 1 1 [.int .i64 p, .string ⟨x.toArray⟩, .bool t] (by rfl) (by rfl) (World.news_of_block (cs := #[.int .i64 p, .string ⟨x.toArray⟩, .bool t]) (t := 38) (fr := (0, 0)) (new2 w _ _)) (by simp [Value.oneCell']) (by omega) b2 b1 (by simp) (w.heap.size + 1 + 1) (by simp) ?_; intro gg cap w1 hown1 hgrow hat hlt; have u4 : w1.cell? ⟨d, 4, none⟩ = some v4 := (hgrow.cell_far _ (by simp; omega) (Ne.symm n4)).trans c4''; have g4 : w1.frozen? ⟨d, 4, none⟩ = false := (hgrow.frozen_far _ (by simp; omega) (Ne.symm n4)).trans f4'')
    all_goals
      go_end0
      have hn : Dk.note S ⟨p, x, t⟩ = S.recd ++ [⟨p, x, t⟩] := by unfold Dk.note; rw [H.out.2]; rfl
      have hb1 : Below w.heap.size w (((w.alloc (.cells #[.int .i64 p, .string ⟨x.toArray⟩, .bool t] 38)).alloc (.cells #[.int .i64 p, .string ⟨x.toArray⟩, .bool t] 38)).drew) := (((Below.refl _ w).alloc (Nat.le_refl _) _).alloc (by simp) _).drew
      have hm1 : Mod (fun k => v4.ownBlock = some k) w w1 := (Mod.of_below hb1 _).trans' (grown_modv hgrow) (fun i hi e => e)
      have ho : w1.ownsRow 0 38 3 (.slice (some ⟨gg, 0, none⟩) (S.recd.length + 1) cap) (S.recd ++ [(⟨p, x, t⟩ : Dk.Op)]).length (ops (S.recd ++ [⟨p, x, t⟩])) := by rw [ops_snoc]; simpa using hown1
      obtain ⟨g1, g2⟩ := H.out.1.app4 hm1 ho (fun k hk => by simp [Value.ownBlock] at hk; subst hk; rcases hat with e | e; exact .inl e; exact .inr (by omega))
      rw [hn, ← H.out.2]
      exact ⟨rfl, ⟨m, n, v0, v1, _, D, g1⟩, g2⟩

theorem Dsk.grow_trans {F : Nat → Prop} {w0 w w' : World} {d : Nat} {S : Dk.Ds} (h : Dsk w' (grow (grow F w0 w) w w') d S) (h1 : w0.heap.size ≤ w.heap.size) (h2 : w.heap.size ≤ w'.heap.size) (hF : ∀ k, F k → k < w0.heap.size) : Dsk w' (grow F w0 w') d S :=
  h.wide (fun k hk => by rcases hk with (hk | hk) | hk; exact .inl hk; exact .inr ⟨hk.1, by omega⟩; exact .inr ⟨by omega, hk.2⟩) (grow_lt hF (by omega))
theorem mod_grow {F : Nat → Prop} {w0 w w' : World} (h : Mod F w0 w) (k : Mod (grow F w0 w) w w') : Mod F w0 w' := h.trans' k (fun i hi hg => by rcases hg with hg | hg; exact hg; omega)

set_option maxRecDepth 20000 in
set_option maxHeartbeats 1000000 in
theorem write_spec (F : Nat → Prop) (d : Nat) (S : Dk.Ds) (p : Int) (x : Dk.Str) (w : World) (h : Dsk w F d S) (hR : S.recd.length ≤ 1099511627776) (hP : S.pend.length ≤ 1099511627776) (hx : x.length ≤ 9223372036854775807) :
    Calls Try.prog 27 #[.pointer (some ⟨d, 0, none⟩), .int .i64 p, .string ⟨x.toArray⟩] w (DskP F d (Dk.write S p x) (.int .i64 (Dk.wErr S.dur p x)) w) := by
  have hfb := h.fb
  by_cases hp : p < 0 ∨ (S.dur.length : Int) ≤ p
  · have kH := has_spec F d S p w h false (has_no hp)
    have he : Dk.wErr S.dur p x = 2 := by unfold Dk.wErr; rw [if_pos hp]
    have hw : Dk.write S p x = S := by unfold Dk.write; rw [he]; rfl
    rw [he, hw]
    have H := Lib.hid h
    clear hp h he hw
    go_enter Try.func27, Try.ntmps27
    go_wp2_with fail
    refine kH.mono ?_
    rintro e w' ⟨rfl, rfl⟩
    go_wp2
    go_ret
    exact ⟨rfl, H.out.wide (fun k hk => .inl hk) (grow_lt hfb (Nat.le_refl _)), Mod.refl _ _⟩
  obtain ⟨q, rfl⟩ : ∃ q : Nat, p = q := ⟨p.toNat, by omega⟩
  have hq : q < S.dur.length := by omega
  have kH := has_spec F d S q w h true (has_yes hq)
  by_cases hl : x.length = 512
  · have he : Dk.wErr S.dur q x = 0 := by unfold Dk.wErr; rw [if_neg hp, if_pos hl]
    have hw : Dk.write S q x = { S with pend := S.pend ++ [(q, x)], recd := Dk.note S ⟨q, x, false⟩ } := by unfold Dk.write; rw [he]; rfl
    rw [he, hw]
    obtain ⟨m, n, v0, v1, v4, D, h⟩ := h
    have hl1 : ((x.length : Int) != 512) = false := by rw [hl]; rfl
    have hsm := h.small
    have hdl := h.blk.lt
    have k1 := h.blk.cell 1
    have k2 := h.blk.cell 2
    simp at k1 k2
    obtain ⟨A1, c1, rfl, hx1, hy1⟩ := own_form h.pen
    obtain ⟨i0, hi, hz0, hz1, hz2⟩ := info_parts info_wr
    obtain ⟨hne, n0, n1, n4⟩ := h.ne1
    obtain ⟨q0, q1, q4⟩ := h.ne2
    have hmap := h.map
    have hn : n < maxLen := by have := h.hn; unfold maxLen; omega
    have hqb : (q : Int) ≤ 4096 := by omega
    have b1 : (S.pend.length + 1) * 24 ≤ 140737488355328 := by omega
    have b2 : S.pend.length + 1 ≤ maxLen := by unfold maxLen; omega
    have HH := Lib.hid (And.intro h (And.intro hl hq)); clear h he hw hl hq hx1 hy1 hp
    go_enter Try.func27, Try.ntmps27
    go_wp2_with fail
    refine kH.mono ?_
    rintro e w' ⟨rfl, rfl⟩
    clear kH
    go_wp2_with fail
    go_still_tail 10, (by kernel_rfl)
    change wpList _ _ _ _ _ w.drew
    refine wpList_mapUpdate_own _ rfl _ _ _ 70 rfl 3 3 law_int Try.underlying70 _ m n D rfl hmap.drew hn _ _ _ rfl rfl (Maps.keyOf_int_mk Try.underlying3 (a := (q : Int)) (by exact WalkArith.wf_i64 (by omega))) _ [] (plainElem_int Try.underlying3 (a := (S.pend.length : Int)) (by exact WalkArith.wf_i64 (by omega))) ?_
    intro w1 hmap1 hg1
    clear hmap
    have h := HH.out.1
    have k1' : w1.cell? ⟨d, 1, none⟩ = some (.slice A1 S.pend.length c1) := hg1.cell (a := ⟨d, 1, none⟩) (w := w.drew) k1 (fun e => hne (by injection e))
    have mm1 : Mod (fun k => k = m) w w1 := ((Mod.refl (fun k => k = m) w).drew).trans (grown_mod hg1)
    have hown1 := mm1.owns h.pen (fun k hk e => q1 (by rw [hk, e]))
    have hd1 : d < w1.heap.size := (h.blk.mod mm1 hne).lt
    have fz1 : ((w1.alloc (.cells #[.int .i64 q, .string ⟨x.toArray⟩] 79))).frozen? ⟨d, 1, none⟩ = false := ((h.blk.mod mm1 hne).alloc _).frozen 1
    have cz1 : ((w1.alloc (.cells #[.int .i64 q, .string ⟨x.toArray⟩] 79))).cell? ⟨d, 1, none⟩ = some (.slice A1 S.pend.length c1) := ((h.blk.mod mm1 hne).alloc _).cell 1
    have M1 := Lib.hid (And.intro hmap1 mm1)
    clear hmap1 hg1 mm1 h k1
    go_wp2_with (at_builtin; go_must (refine wpList_append_lies _ rfl _ _ 71 rfl 0 79 i0 _ 2 24 Try.underlying71 hi hz0 hz1 hz2 rfl (by omega) (.slice A1 S.pend.length c1) S.pend.length (wrs S.pend) rfl (hown1.alloc _) ⟨w1.heap.size, 0, none⟩ 1 1 [.int .i64 q, .string ⟨x.toArray⟩] rfl rfl (World.news_of_block (cs := #[.int .i64 q, .string ⟨x.toArray⟩]) (t := 79) (fr := (0, 0)) (heap_alloc_new w1 _)) (by simp [Value.oneCell']) (by omega) b2 b1 (by simp) (w1.heap.size + 1) (by simp) ?_); intro gg cap w2 hown2 hg2 hat2 hlt2; have u1 := (hg2.cell_far ⟨d, 1, none⟩ (by simp; omega) (Ne.symm n1)).trans cz1; have g1 := (hg2.frozen_far ⟨d, 1, none⟩ (by simp; omega) (Ne.symm n1)).trans fz1; clear cz1 fz1)
    have h := HH.out.1
    have ma : Mod (fun k => (Value.slice A1 S.pend.length c1).ownBlock = some k) w1 w2 := ((Mod.refl _ w1).alloc _).trans' (grown_modv hg2) (fun i hi e => e)
    have mm2 : Mod (fun k => k = m ∨ (Value.slice A1 S.pend.length c1).ownBlock = some k) w w2 := (M1.out.2.mono (fun i _ e => .inl e)).trans (ma.mono (fun i _ e => .inr e))
    have ho : w2.ownsRow 0 79 2 (.slice (some ⟨gg, 0, none⟩) (S.pend.length + 1) cap) (S.pend ++ [(q, x)]).length (wrs (S.pend ++ [(q, x)])) := by rw [wrs_snoc]; simpa using hown2
    obtain ⟨d1, d2⟩ := h.app1 mm2 ho (fun k hk => by simp [Value.ownBlock] at hk; subst hk; rcases hat2 with e | e; exact .inl e; exact .inr (by have := M1.out.2.size; omega)) (by simpa using h.hn) (h.lat.put q x) (map_mod M1.out.1 ma q1)
      (by intro y hy; rcases List.mem_append.1 hy with hy | hy; exact h.ok y hy; simp at hy; subst hy; exact ⟨HH.out.2.2, HH.out.2.1⟩)
    have D1 : Dsk (w2.setCell ⟨d, 1, none⟩ (.slice (some ⟨gg, 0, none⟩) (S.pend.length + 1) cap)) (grow F w (w2.setCell ⟨d, 1, none⟩ (.slice (some ⟨gg, 0, none⟩) (S.pend.length + 1) cap))) d { S with pend := S.pend ++ [(q, x)] } := ⟨_, _, _, _, _, _, d1⟩
    refine (record_spec _ d _ (q : Int) x false _ D1 hR).mono ?_
    have HD := Lib.hid d2
    clear hown2 hg2 u1 g1 h ma mm2 ho d1 d2 D1 k1' hown1 M1
    rintro e w3 ⟨rfl, D3, m3⟩
    go_wp2
    go_ret
    exact ⟨rfl, D3.grow_trans HD.out.size m3.size hfb, mod_grow HD.out m3⟩
  · have he : Dk.wErr S.dur q x = 1 := by unfold Dk.wErr; rw [if_neg hp, if_neg hl]
    have hw : Dk.write S q x = S := by unfold Dk.write; rw [he]; rfl
    rw [he, hw]
    have hl1 : ((x.length : Int) != 512) = true := by simp; omega
    have H := Lib.hid h
    clear hp h he hw hl hq
    go_enter Try.func27, Try.ntmps27
    go_wp2_with fail
    refine kH.mono ?_
    rintro e w' ⟨rfl, rfl⟩
    go_wp2
    go_ret
    exact ⟨rfl, H.out.wide (fun k hk => .inl hk) (grow_lt hfb (Nat.le_refl _)), Mod.refl _ _⟩
end Go.Proofs.Ytepdfeegklinfaa
