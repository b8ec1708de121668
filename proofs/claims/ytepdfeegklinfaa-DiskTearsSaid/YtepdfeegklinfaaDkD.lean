/-
  (*Disk).Clone: an independent disk in the same state. Conditions: at most 2^32 pending writes.
-/
import Derived.Test.YtepdfeegklinfaaDkC
import Derived.Test.YtepdfeegklinfaaClone
import Derived.Maps.RangeWalk
import Derived.Deep.DeepCutAuto
import Derived.Deep.RegionHeld3
namespace Go.Proofs.Ytepdfeegklinfaa
set_option linter.unusedVariables false
open Go.RowKit Go.ChangeMaps Go.MapKept

/-- 'append' of a slice that came in to a slice of the call's own, elements of several cells -/
theorem appendS {P : Program} (w : World) {ops : Array Oper} {rest : List Oper} {o : Oper} {a : Act} {Q : Exit → Act → World → Prop} (t e : TypeId) (z : Value) (size bytes base : Nat)
    (ht : P.underlying t = some (.slice e)) (hi : (P.info? e).map (fun i => (i.zero, i.size, i.bytes)) = some (some z, size, bytes)) (hzs : z.cells.size = size) (hsz : 0 < size)
    (hgd : o.guard = none) (s x : Operand) (ho : o.op = .call { callee := .builtin .append, args := #[s, x], argTypes := #[t, t] })
    (v : Value) (n : Nat) (xs : List Value) (A : Option Addr) (m c : Nat) (news : List Value) (hown : w.ownsRow base e size v n xs) (hs : a.eval s = v) (hx : a.eval x = .slice A m c)
    (hnil : A = none → m = 0 ∧ c = 0) (hR : Rd w A news) (hm : news.length = m * size) (hu : ∀ u ∈ news, u.oneCell' = true) (hn : (n + m) * bytes ≤ 140737488355328) (h63 : n + m ≤ maxLen) (hb : base ≤ w.heap.size)
    (h : ∀ v' w', w'.ownsRow base e size v' (n + m) (xs ++ news) → w.grownBy w' v.ownBlock → wpList P ops Q rest (a.put o.dst v') w') : wpList P ops Q (o :: rest) a w := by
  obtain ⟨i, hi', h1, h2, h3⟩ := info_parts hi
  cases A with
  | none =>
    obtain ⟨rfl, rfl⟩ := hnil rfl
    have hnews : news = [] := List.eq_nil_of_length_eq_zero (by omega)
    subst hnews
    refine wpList_plain hgd fun K hK => ?_
    have hrun := run_append_owned_none (P := P) w base t o.type e i size ht hi' v n xs hown
    unfold Oper.wp execOp
    simp only [ho, resolve, invoke, builtin, Sem.run_bind, Sem.run_pure, Result.andThen_ok, List.map_toArray, List.map_cons, List.map_nil, hs, hx, hrun]
    exact hK _ _ (h v w (by simpa using hown) (World.grownBy.refl _ _))
  | some ad =>
    refine wpList_append_own w hgd s x t ho base e i z size bytes ht hi' h1 h2 h3 hzs hsz v n xs hs hown ad m c news hx hm ?_ hu h63 hn hb (fun v' w' a b _ => h v' w' a b)
    intro j u hj
    rcases hR with hR | ⟨b, off, hA, hc⟩
    · subst hR; simp at hj
    · have hlt := (List.getElem?_eq_some_iff.1 hj).1
      injection hA with hA
      subst hA
      rw [Addr.add_lit, hc j hlt]
      rw [List.getElem?_eq_getElem hlt] at hj
      exact hj
theorem wrs_one (L : List Dk.Wr) : ∀ u ∈ wrs L, u.oneCell' = true := by
  intro u hu
  simp only [wrs, List.mem_flatMap] at hu
  obtain ⟨s, _, hu⟩ := hu
  simp at hu
  rcases hu with rfl | rfl <;> rfl
theorem wrs_length (L : List Dk.Wr) : (wrs L).length = L.length * 2 := flat_len _ 2 (fun _ => rfl) L

set_option maxHeartbeats 400000 in
theorem cloneW_spec (A : Option Addr) (L : List Dk.Wr) (c : Nat) (w : World) (hR : Rd w A (wrs L)) (hnil : A = none → L.length = 0 ∧ c = 0) (hL : L.length ≤ 1099511627776) :
    Calls Try.prog 39 #[.slice A L.length c] w fun e w' => ∃ v, e = .returned v ∧ w'.ownsRow w.heap.size 79 2 v L.length (wrs L) ∧ Below w.heap.size w w' := by
  cases A with
  | none =>
    obtain ⟨h1, rfl⟩ := hnil rfl
    have hL0 : L = [] := List.eq_nil_of_length_eq_zero h1
    subst hL0
    have kn := fun w => Lib.run_eql_slice_nil (P := Try.prog) w 71 79 none 0 0 0 0 Try.underlying71
    clear hR hnil h1 hL
    go_enter Try.func39, Try.ntmps39
    go_wp2
    go_ret
    exact ⟨_, rfl, World.ownsRow_nil _ _ _ _, Below.refl _ _⟩
  | some a =>
    have kn := fun w => Lib.run_eql_slice_nil (P := Try.prog) w 71 79 (some a) L.length c 0 0 Try.underlying71
    go_enter Try.func39, Try.ntmps39
    go_wp2_with (at_builtin; go_must (refine appendS _ 71 79 (.agg #[.int .i64 0, .string ⟨#[]⟩]) 2 24 w.heap.size Try.underlying71 info_wr rfl (by decide) rfl _ _ rfl _ 0 [] (some a) L.length c (wrs L) (World.ownsRow_lit w #[] 0 (Nat.le_refl _) (by decide) rfl) rfl rfl hnil (hR.alloc _) (wrs_length L) (wrs_one L) (by omega) (by unfold maxLen; omega) (by simp) ?_))
    intro v1 w1 o1 g1
    go_wp2
    go_ret
    refine ⟨_, rfl, ?_, ((Below.refl _ w).alloc (Nat.le_refl _) _).grown g1 (by simp) (fun k hk => by cases hk; exact Nat.le_refl _)⟩
    simpa using o1

/-- the blocks of the clone but for its map: what the copy of the map leaves alone -/
structure ClV (w0 w : World) (d m : Nat) (v0 v1 : Value) (S : Dk.Ds) : Prop where
  blk : Blk w d 73 #[v0, v1, .map (some m), .bool false, .slice none 0 0]
  dur : w.ownsRow w0.heap.size 9 1 v0 S.dur.length (strs S.dur)
  pen : w.ownsRow w0.heap.size 79 2 v1 S.pend.length (wrs S.pend)
  dn : d ≠ m
  m0 : v0.ownBlock ≠ some m
  m1 : v1.ownBlock ≠ some m
  dge : w0.heap.size ≤ d
  mge : w0.heap.size ≤ m
theorem ClV.mod {G : Nat → Prop} {w0 w w' : World} {d m : Nat} {v0 v1 : Value} {S : Dk.Ds} (h : ClV w0 w d m v0 v1 S) (hm : Mod G w w') (hG : ∀ k, (k = d ∨ v0.ownBlock = some k ∨ v1.ownBlock = some k) → ¬ G k) : ClV w0 w' d m v0 v1 S :=
  { h with blk := h.blk.mod hm (hG _ (.inl rfl)), dur := hm.owns h.dur (fun k hk => hG k (.inr (.inl hk))), pen := hm.owns h.pen (fun k hk => hG k (.inr (.inr hk))) }
theorem ClV.lt {w0 w : World} {d m : Nat} {v0 v1 : Value} {S : Dk.Ds} (h : ClV w0 w d m v0 v1 S) : ∀ k, (k = d ∨ v0.ownBlock = some k ∨ v1.ownBlock = some k) → k < w.heap.size ∧ k ≠ m := by
  rintro k (e | e | e)
  · subst e; exact ⟨h.blk.lt, h.dn⟩
  · exact ⟨(h.dur.lt k e).2, fun he => h.m0 (by rw [e, he])⟩
  · exact ⟨(h.pen.lt k e).2, fun he => h.m1 (by rw [e, he])⟩

/-- what has come of the map D already -/
def Part (D D' : DataW Unit) (left : Lit → Bool) : Prop :=
  Maps.IsMap D' ∧ ∀ p : Int, (Maps.has D' (.int .i64 p) = (Maps.has D (.int .i64 p) && !left (.int .i64 p))) ∧ ∀ z, D'.atKey (.int .i64 p) z = if left (.int .i64 p) then z else D.atKey (.int .i64 p) z
theorem part_start {D : DataW Unit} (hD : Maps.IsMap D) : Part D (.map []) (Maps.has D) := by
  refine ⟨Maps.isMap_empty, fun p => ⟨by simp [Maps.has_eq], fun z => ?_⟩⟩
  have e0 : (DataW.map [] : DataW Unit).atKey (.int .i64 p) z = z := rfl
  rw [e0]
  cases h : Maps.has D (.int .i64 p) with
  | true => rfl
  | false => simp [Maps.atKey_of_not_has h]
theorem same_self (p : Int) : (Lit.int .i64 p).sameKey (.int .i64 p) = true := by simp [Lit.sameKey]
theorem part_step {D D' : DataW Unit} {left : Lit → Bool} (h : Part D D' left) {x c : Int} (hx : left (.int .i64 x) = true) (hat : ∀ zd, D.atKey (.int .i64 x) zd = .lit (.int .i64 c)) :
    Part D (D'.put (.int .i64 x) (.lit (.int .i64 c))) (fun z => left z && !z.sameKey (.int .i64 x)) := by
  refine ⟨h.1.put _ _, fun p => ?_⟩
  by_cases e : p = x
  · subst e
    have hs := same_self p
    exact ⟨by rw [Maps.has_put_same h.1 (Dk.isKey _), Maps.has_true_of_atKey hat]; simp [hs], fun z => by rw [Maps.atKey_put_same h.1 (Dk.isKey _), hat z]; simp [hs]⟩
  · have hne : (Lit.int .i64 p) ≠ .int .i64 x := fun he => by injection he with _ he; exact e he
    have hs : (Lit.int .i64 p).sameKey (.int .i64 x) = false := Maps.sameKey_ne hne
    exact ⟨by rw [Maps.has_put_other hne, (h.2 p).1]; simp [hs], fun z => by rw [Maps.atKey_put_other hne, (h.2 p).2 z]; simp [hs]⟩
theorem part_done {D D' : DataW Unit} {left : Lit → Bool} (h : Part D D' left) (hl : ∀ kl, left kl = false) {P : List Dk.Wr} (hD : Dk.LatOk D P) : Dk.LatOk D' P := by
  refine ⟨h.1, fun p hp => ?_⟩
  obtain ⟨a, b⟩ := h.2 p
  rw [hl] at a b
  exact ⟨by rw [a]; simpa using (hD.2 p hp).1, fun z => by rw [b z]; simpa using (hD.2 p hp).2 z⟩
theorem size_le {w : World} {P : Program} {k : TypeId} {R : Value → Option (DataW Unit × List MemPlace)} {b n : Nat} {D : DataW Unit} (h : w.ownsMap P k R b n D) : Maps.size D ≤ n := by
  obtain ⟨es, clock, _, _, hs, rfl⟩ := h
  rw [Maps.size_eq, length_sorted]
  simpa using hs

theorem clF {w W : World} {A0 A1 : Option Addr} {n0 c0 n1 c1 m : Nat} {S : Dk.Ds} (o0 : W.ownsRow w.heap.size 9 1 (.slice A0 n0 c0) S.dur.length (strs S.dur)) (o1 : W.ownsRow w.heap.size 79 2 (.slice A1 n1 c1) S.pend.length (wrs S.pend))
    (mp : W.ownsMap Try.prog 3 (plainElem Try.prog 3) m 0 (.map [] : DataW Unit)) (hm : w.heap.size ≤ m) (B : Below w.heap.size w W) :
    ClV w (W.alloc (.cells #[.slice A0 n0 c0, .slice A1 n1 c1, .map (some m), .bool false, .slice none 0 0] 73)) W.heap.size m (.slice A0 n0 c0) (.slice A1 n1 c1) S ∧
    (W.alloc (.cells #[.slice A0 n0 c0, .slice A1 n1 c1, .map (some m), .bool false, .slice none 0 0] 73)).ownsMap Try.prog 3 (plainElem Try.prog 3) m 0 (.map [] : DataW Unit) ∧
    Below w.heap.size w (W.alloc (.cells #[.slice A0 n0 c0, .slice A1 n1 c1, .map (some m), .bool false, .slice none 0 0] 73)) := by
  have hlt := mp.lt
  have key : ∀ {v : Value} {e : TypeId} {size n : Nat} {xs : List Value}, W.ownsRow w.heap.size e size v n xs → v.ownBlock ≠ some m := by
    intro v e size n xs ho
    obtain ⟨es, clock, h1, _⟩ := mp
    rcases ho.2 with ⟨rfl, _⟩ | ⟨g, cap, cur, rfl, _, hg, _⟩
    · simp [Value.ownBlock]
    · intro hh
      simp [Value.ownBlock] at hh
      subst hh
      rw [h1] at hg
      cases hg
  exact ⟨{ blk := Blk.new W _ _, dur := o0.alloc _, pen := o1.alloc _, dn := by omega, m0 := key o0, m1 := key o1, dge := B.size, mge := hm }, mp.alloc _, B.alloc B.size _⟩

set_option maxRecDepth 20000 in
set_option maxHeartbeats 4000000 in
theorem clone_disk (F : Nat → Prop) (d : Nat) (S : Dk.Ds) (w : World) (h : Dsk w F d S) (hP : S.pend.length ≤ 1099511627776) :
    Calls Try.prog 23 #[.pointer (some ⟨d, 0, none⟩)] w (NewP (Dk.clone S) w) := by
  have hfb := h.fb
  obtain ⟨m, n, v0, v1, v4, D, h⟩ := h
  have hsm := h.small
  obtain ⟨A0, c0, rfl, hx0, hy0⟩ := own_form h.dur
  obtain ⟨A1, c1, rfl, hx1, hy1⟩ := own_form h.pen
  have k0 := h.blk.cell 0
  have k1 := h.blk.cell 1
  have k2 := h.blk.cell 2
  simp at k0 k1 k2
  have hdl := h.blk.lt
  have kC : ∀ w', Below w.heap.size w w' → Calls Try.prog 38 #[.slice A0 S.dur.length c0] w' fun e w'' => ∃ v, e = .returned v ∧ w''.ownsRow w.heap.size 9 1 v S.dur.length (strs S.dur) ∧ Below w.heap.size w w'' ∧ Below w'.heap.size w' w'' := fun w' hb =>
    (clone_spec A0 S.dur c0 w' ((Rd.of_own h.dur).below hb) (fun e => by subst e; rcases h.dur.2 with ⟨e1, e2⟩ | ⟨g, cap, cur, e1, _⟩; exact ⟨e2, by injection e1⟩; cases e1) (by omega)).mono fun e w'' ⟨v, a, b, c⟩ => ⟨v, a, owns_base b (fun k hk => Nat.le_trans hb.size (b.lt k hk).1), hb.trans (c.mono hb.size), c⟩
  have kW : ∀ w', Below w.heap.size w w' → Calls Try.prog 39 #[.slice A1 S.pend.length c1] w' fun e w'' => ∃ v, e = .returned v ∧ w''.ownsRow w.heap.size 79 2 v S.pend.length (wrs S.pend) ∧ Below w.heap.size w w'' ∧ Below w'.heap.size w' w'' := fun w' hb =>
    (cloneW_spec A1 S.pend c1 w' ((Rd.of_own h.pen).below hb) (fun e => by subst e; rcases h.pen.2 with ⟨e1, e2⟩ | ⟨g, cap, cur, e1, _⟩; exact ⟨e2, by injection e1⟩; cases e1) hP).mono fun e w'' ⟨v, a, b, c⟩ => ⟨v, a, owns_base b (fun k hk => Nat.le_trans hb.size (b.lt k hk).1), hb.trans (c.mono hb.size), c⟩
  have hmm := @run_makeMap Try.prog
  have HH := Lib.hid h
  clear h hx0 hy0 hx1 hy1
  go_enter Try.func23, Try.ntmps23
  go_upto_region 1 with fail
  go_cut [3] (fun s3 wx => ∃ e m' v0' v1', s3 = .pointer (some ⟨e, 0, none⟩) ∧ ClV w wx e m' v0' v1' S ∧ wx.ownsMap Try.prog 3 (plainElem Try.prog 3) m' 0 (.map [] : DataW Unit) ∧ Below w.heap.size w wx)
  case first =>
    go_region_with (first
      | (go_at_call 38; refine (kC _ ?_).mono ?_; (first | exact (Below.refl _ w).drew | exact ((Below.refl _ w).alloc (Nat.le_refl _) _).drew | exact B1 | exact B1.alloc B1.size _); rintro e w1 ⟨v0', rfl, ov0, B1, b1⟩; obtain ⟨A0', c0', rfl, _, _⟩ := own_form ov0; have k01 := below_cell B1 k0; have k11 := below_cell B1 k1; have hd1 := Nat.lt_of_lt_of_le hdl B1.size)
      | (go_at_call 39; refine (kW _ ?_).mono ?_; (first | exact (Below.refl _ w).drew | exact ((Below.refl _ w).alloc (Nat.le_refl _) _).drew | exact B1 | exact B1.alloc B1.size _); rintro e w2 ⟨v1', rfl, ov1, B2, b2⟩; obtain ⟨A1', c1', rfl, _, _⟩ := own_form ov1; have k02 := below_cell B2 k0; have k12 := below_cell B2 k1; have hd2 := Nat.lt_of_lt_of_le hdl B2.size))
    all_goals
      go_wp2_with fail
      go_meet
      first
        | exact ⟨_, _, _, _, rfl, clF (W := w2) (below_owns b2 ov0) ov1 (map_mod (map_mod (World.ownsMap_made w _ _ _).drew (Mod.of_below b1 (fun _ => False)) (fun h => h)) (Mod.of_below b2 (fun _ => False)) (fun h => h)) (Nat.le_refl _) B2⟩
        | exact ⟨_, _, _, _, rfl, clF (W := w2) (below_owns b2 (ov0.alloc _)) ov1 (map_mod (World.ownsMap_made w1 _ _ _) (Mod.of_below b2 (fun _ => False)) (fun h => h)) B1.size B2⟩
        | (have q := clF (W := w2.alloc (.map #[] 0)) ((below_owns b2 ov0).alloc _) (ov1.alloc _) (World.ownsMap_made w2 _ _ _) B2.size (B2.alloc B2.size _)
           rw [World.size_alloc] at q
           exact ⟨_, _, _, _, rfl, q⟩)
  case rest =>
    obtain ⟨e, m', v0', v1', rfl, cl, mp, bel⟩ := hcut
    have kk2 := below_cell bel k2
    have sz := bel.size
    have hown0 : wc.ownsMap Try.prog 3 (plainElem Try.prog 3) m n D := map_mod HH.out.map (Mod.of_below bel (fun _ => False)) (fun h => h)
    have hml := HH.out.map.lt
    have ka2 := cl.blk.cell 2
    simp at ka2
    have HC := Lib.hid (And.intro cl (And.intro mp bel))
    have hel := cl.blk.lt
    have hge := cl.dge
    clear cl mp bel
    go_wp2_with (first | (at_range; refine wpList_range_own _ rfl _ 70 rfl 3 3 law_int Try.underlying70 _ m n D rfl hown0 ?_; intro w1 hrg0 hg0 hs0) | go_in)
    go_frame
    go_loopw [24, 4, 5] (fun _ _ _ wr => ∃ (left : Lit → Bool) (cnt n' : Nat) (D' : DataW Unit), wr.ranges Try.prog 3 (plainElem Try.prog 3) m wc.heap.size n D left cnt ∧ ClV w wr e m' v0' v1' S ∧ wr.ownsMap Try.prog 3 (plainElem Try.prog 3) m' n' D' ∧ Part D D' left ∧ n' + cnt ≤ Maps.size D ∧ Below w.heap.size w wr ∧ wc.heap.size < wr.heap.size) (fun _ _ _ wr => wr.rangeLeft m wc.heap.size)
    case atStart =>
      obtain ⟨cl, mp, bel⟩ := HC.out
      have hmg := grown_mod (b := wc.heap.size) (hg0.but _)
      exact ⟨_, _, 0, _, hrg0, cl.mod hmg (fun k hk he => by have := (cl.lt k hk).1; omega), map_mod mp hmg (fun he => by have := mp.lt; omega), part_start HH.out.lat.1, by omega, bel.trans ((hmg.below (Nat.le_refl _) (fun i hi he => by omega)).mono sz), by omega⟩
    case round =>
      obtain ⟨left, cnt, n', D', hrg, cl, mp, hpart, hcnt, bel, hwr⟩ := hrel
      have ka2 := cl.blk.cell 2
      simp at ka2
      have hel := cl.blk.lt
      have hne := cl.dn
      have hmge := cl.mge
      have hmlt := mp.lt
      have hsz := size_le HH.out.map
      have hnp := HH.out.hn
      have HR := Lib.hid (And.intro cl (And.intro hpart bel))
      clear cl hpart bel
      go_wp2_with (first
        | (at_next; refine wpList_next_ranges_ii _ rfl _ rfl 3 3 .i64 .i64 law_int Try.underlying3 Try.underlying3 m wc.heap.size n _ _ _ rfl hrg ?_ ?_)
        | go_in)
      · intro _ hl0
        go_wp2
        go_ret
        obtain ⟨cl, hpart, bel⟩ := HR.out
        refine ⟨e, rfl, ⟨m', n', v0', v1', .slice none 0 0, D', ?_⟩, bel⟩
        exact { blk := cl.blk, dur := owns_base cl.dur (fun k hk => Nat.zero_le _), pen := owns_base cl.pen (fun k hk => Nat.zero_le _), map := mp, lat := part_done hpart hl0 HH.out.lat, hn := by show n' ≤ S.pend.length; omega, rcd := World.ownsRow_nil _ _ _ _, fd := ⟨cl.dge, cl.blk.lt⟩, fm := ⟨cl.mge, mp.lt⟩, f0 := fun k hk => cl.dur.lt k hk, f1 := fun k hk => cl.pen.lt k hk, f4 := fun k hk => by simp [Value.ownBlock] at hk, fb := fun k hk => hk.2, ok := HH.out.ok, small := HH.out.small }
      · intro x c w1 cnt1 hwx hwc hlx hat hrg1 hlt hg1 hs1 hen
        have hmg := grown_mod hg1
        have ka2' : w1.cell? ⟨e, 2, none⟩ = some (.map (some m')) := hmg.cell (p := ⟨e, 2, none⟩) (by show ¬ e = wc.heap.size; omega) ka2
        have mp1 := map_mod mp hmg (by have := HC.out.2.1.lt; omega)
        go_wp2_with (first
          | (at_mapUpdate; refine wpList_mapUpdate_own _ rfl _ _ _ 70 rfl 3 3 law_int Try.underlying70 _ m' n' D' rfl mp1 (by unfold maxLen; omega) _ _ _ rfl rfl (Maps.keyOf_int_mk Try.underlying3 hwx) _ [] (plainElem_int Try.underlying3 hwc) ?_; intro w2 mp2 hg2)
          | go_in)
        go_roundw
        case rel =>
          obtain ⟨cl, hpart, bel⟩ := HR.out
          have hm2 := grown_mod hg2
          have hr2 := hrg1.kept hg2 (fun he => by injection he; omega) (fun he => by injection he with he; have := HC.out.2.1.lt; omega)
          have hsz2 := hmg.size
          have hsz3 := hm2.size
          have hbs := bel.size
          have cl2 := (cl.mod hmg (fun k hk he => by have := (HC.out.1.lt k hk).1; omega)).mod hm2 (fun k hk he => (HC.out.1.lt k hk).2 he)
          have bel2 := (bel.trans (hmg.below (B := w.heap.size) bel.size (fun i hi he => by omega))).trans (hm2.below (B := w.heap.size) (by omega) (fun i hi he => by omega))
          have pt2 := part_step hpart hlx hat
          have hc2 : n' + 1 + cnt1 ≤ Maps.size D := by omega
          have hw2 : wc.heap.size < w2.heap.size := by omega
          (repeat apply Exists.intro)
          exact ⟨⟨_, cnt1, n' + 1, _, hr2, cl2, mp2, pt2, hc2, bel2, hw2⟩, rfl⟩
        case measure =>
          have hr2 := hrg1.kept hg2 (fun he => by injection he; omega) (fun he => by injection he with he; have := HC.out.2.1.lt; omega)
          rw [hr2.left_eq, hrg.left_eq]; exact hlt
end Go.Proofs.Ytepdfeegklinfaa
