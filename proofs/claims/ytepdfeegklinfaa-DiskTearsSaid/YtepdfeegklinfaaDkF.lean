/-
  (*Disk).Crash. Conditions: at most 2^40 pending writes; the choices do not lie in the disk.
-/
import Derived.Test.YtepdfeegklinfaaDkE
import Derived.Test.YtepdfeegklinfaaRound
import Derived.StillTailTactics
import Derived.Shelf.RegionOpen
import Derived.Sort.CutIn
import Derived.Deep.Light
namespace Go.Proofs.Ytepdfeegklinfaa
set_option linter.unusedVariables false
open Go.RowKit Go.ChangeMaps Go.MapKept Go.Shelf
attribute [local go_sem] Oper.semAt_some

/-- what endless leaves: the closure, and the choices behind it (a nought where there are none) -/
def EndP (A : Option Addr) (cs : List Int) (w : World) (e : Ending) (w' : World) : Prop :=
  ∃ (box b off c : Nat) (cs' : List Int), e = .returned (.func (.func 48) #[] #[.pointer (some ⟨box, 0, none⟩)]) ∧ w'.cell? ⟨box, 0, none⟩ = some (.slice (some ⟨b, off, none⟩) cs'.length c) ∧
    (∀ j (hj : j < cs'.length), w'.cell? ⟨b, off + j, none⟩ = some (.int .i64 cs'[j])) ∧ 0 < cs'.length ∧ cs'.length ≤ 9223372036854775807 ∧ (∀ k, Dk.choice cs' k = Dk.choice cs k) ∧ Below w.heap.size w w' ∧ w.heap.size ≤ box ∧ (w.heap.size ≤ b ∨ ((∃ p, A = some p ∧ p.block = b) ∧ 0 < cs.length))
theorem choice_nil (k : Nat) : Dk.choice [0] k = Dk.choice [] k := by simp [Dk.choice, Nat.mod_one]
set_option maxHeartbeats 1000000 in
theorem endless_spec (A : Option Addr) (cs : List Int) (c : Nat) (w : World) (hR : Rd w A (ints cs)) (hl : cs.length ≤ 9223372036854775807) :
    Calls Try.prog 40 #[.slice A cs.length c] w (EndP A cs w) := by
  by_cases h0 : cs.length = 0
  · have hc : cs = [] := List.eq_nil_of_length_eq_zero h0
    subst hc
    clear hR hl h0
    go_enter Try.func40, Try.ntmps40
    go_wp2
    go_ret
    refine ⟨w.heap.size, w.heap.size + 1, 0, 1, [0], rfl, ?_, ?_, by decide, by decide, choice_nil, ?_, Nat.le_refl _, .inl (by omega)⟩
    · simp
    · intro j hj
      obtain rfl : j = 0 := by simpa using hj
      simp
    · exact ((Below.refl _ w).alloc (Nat.le_refl _) _).alloc (by simp) _
  · obtain ⟨b, off, rfl, hc0⟩ := hR.int (k := 0) (by omega)
    have hc : ∀ j (hj : j < cs.length), w.cell? ⟨b, off + j, none⟩ = some (.int .i64 cs[j]) := by
      intro j hj
      obtain ⟨b', off', hA, hcc⟩ := hR.int hj
      injection hA with hA
      injection hA with h1 h2
      subst h1 h2
      exact hcc
    have hpos : 0 < cs.length := by omega
    have hz : ((cs.length : Int) == 0) = false := by rw [beq_eq_false_iff_ne]; omega
    have HC := Lib.hid hc
    clear hc hR h0 hc0
    go_enter Try.func40, Try.ntmps40
    go_wp2
    go_ret
    exact ⟨w.heap.size, b, off, c, cs, rfl, by simp, fun j hj => below_cell ((Below.refl _ w).alloc (Nat.le_refl _) _) (HC.out j hj), hpos, hl, fun _ => rfl, (Below.refl _ w).alloc (Nat.le_refl _) _, Nat.le_refl _, .inr ⟨⟨_, rfl, rfl⟩, hpos⟩⟩
theorem mod_below {B : Nat} {w w' : World} (h : Below B w w') : Mod (fun k => B ≤ k) w w' := ⟨h.os, h.tape, h.output, h.size, fun k _ hn => h.block k (by omega)⟩

/-- the end of a round: a page is written, the counter goes up -/
theorem crash_fin {F : Nat → Prop} {w W wc Wf : World} {d m n g l c0 p k B0 box b : Nat} {v1 v4 : Value} {D : DataW Unit} {S : Dk.Ds} {x : Dk.Str} {t0 ti : TypeId} {u : Value} (h : DkV wc F d m n (.slice (some ⟨g, 0, none⟩) l c0) v1 v4 D S) (b0 : Blk wc B0 t0 #[u]) (b1 : Blk wc (B0 + 1) ti #[.int .i64 k])
    (hF : ∀ k, F k → k < B0) (mm : Mod F w wc) (hw : w.heap.size = B0) (bel : Below W.heap.size W wc) (hbx : B0 + 2 ≤ box) (hbR : B0 + 2 ≤ b ∨ (b < B0 ∧ ¬ F b)) (hbl : box < W.heap.size) (hcl : b < W.heap.size)
    (hWf : Wf = ((wc.setCell ⟨g, p, none⟩ (.string ⟨x.toArray⟩)).setCell ⟨B0 + 1, 0, none⟩ (.int .i64 ((k + 1 : Nat) : Int))).drew) (B : Nat) :
    DkV Wf F d m n (.slice (some ⟨g, 0, none⟩) l c0) v1 v4 D { S with dur := S.dur.set p x } ∧ Blk Wf B0 t0 #[u] ∧ Blk Wf (B0 + 1) ti #[.int .i64 ((k + 1 : Nat) : Int)] ∧ Mod F w Wf ∧ KeepsFrom B W Wf ∧ (∀ j, (j = box ∨ j = b) → Wf.heap[j]? = W.heap[j]?) := by
  subst hWf
  have hg := h.f0 g rfl
  have hg0 := hF g hg
  obtain ⟨h1, m1⟩ := h.put0 p x
  have m2 := mod_set (wc.setCell ⟨g, p, none⟩ (.string ⟨x.toArray⟩)) (B0 + 1) 0 (.int .i64 ((k + 1 : Nat) : Int))
  have m3 : Mod (fun k => k = B0 + 1) (wc.setCell ⟨g, p, none⟩ (.string ⟨x.toArray⟩)) ((wc.setCell ⟨g, p, none⟩ (.string ⟨x.toArray⟩)).setCell ⟨B0 + 1, 0, none⟩ (.int .i64 ((k + 1 : Nat) : Int))).drew := m2.drew
  refine ⟨h1.mod m3 (fun k hk he => by have := hF k hk; omega), (b0.far (p := ⟨g, p, none⟩) (by show B0 ≠ g; omega) _).mod m3 (by omega), ?_, (mm.trans m1).trans' m3 (fun i hi he => by omega), ?_, ?_⟩
  · have := (b1.far (p := ⟨g, p, none⟩) (by show B0 + 1 ≠ g; omega) (.string ⟨x.toArray⟩)).set_ 0 (.int .i64 ((k + 1 : Nat) : Int))
    have q : Blk ((wc.setCell ⟨g, p, none⟩ (.string ⟨x.toArray⟩)).setCell ⟨B0 + 1, 0, none⟩ (.int .i64 ((k + 1 : Nat) : Int))) (B0 + 1) ti #[.int .i64 ((k + 1 : Nat) : Int)] := by simpa using this
    exact q
  · have k1 : KeepsFrom B W wc := ⟨bel.size, fun j o _ hj _ => (bel.block j (Array.getElem?_eq_some_iff.1 hj).1).trans hj⟩
    have q : KeepsFrom B wc ((wc.setCell ⟨g, p, none⟩ (.string ⟨x.toArray⟩)).setCell ⟨B0 + 1, 0, none⟩ (.int .i64 ((k + 1 : Nat) : Int))) := ((KeepsOthers.setCell _ _ _).trans (KeepsOthers.setCell _ _ _)).from B
    exact k1.trans ⟨q.size, q.same⟩
  · intro j hj
    have hne : j ≠ g ∧ j ≠ B0 + 1 ∧ j < W.heap.size := by
      rcases hj with rfl | rfl
      · omega
      · rcases hbR with e | ⟨e1, e2⟩
        · omega
        · exact ⟨fun e => e2 (by rw [e]; exact hg), by omega, hcl⟩
    show (((wc.setCell ⟨g, p, none⟩ (.string ⟨x.toArray⟩)).setCell ⟨B0 + 1, 0, none⟩ (.int .i64 ((k + 1 : Nat) : Int)))).heap[j]? = _
    rw [Below.heap_setCell _ _ _ _ hne.2.1, Below.heap_setCell _ _ _ _ hne.1, bel.block j hne.2.2]

/-- .. where no page is written -/
theorem crash_fin0 {F : Nat → Prop} {w W wc Wf : World} {d m n k B0 box b : Nat} {v0 v1 v4 : Value} {D : DataW Unit} {S : Dk.Ds} {t0 ti : TypeId} {u : Value} (h : DkV wc F d m n v0 v1 v4 D S) (b0 : Blk wc B0 t0 #[u]) (b1 : Blk wc (B0 + 1) ti #[.int .i64 k])
    (hF : ∀ k, F k → k < B0) (mm : Mod F w wc) (hw : w.heap.size = B0) (bel : Below W.heap.size W wc) (hbx : B0 + 2 ≤ box) (hbR : B0 + 2 ≤ b ∨ (b < B0 ∧ ¬ F b)) (hbl : box < W.heap.size) (hcl : b < W.heap.size)
    (hWf : Wf = wc.setCell ⟨B0 + 1, 0, none⟩ (.int .i64 ((k + 1 : Nat) : Int))) (B : Nat) :
    DkV Wf F d m n v0 v1 v4 D S ∧ Blk Wf B0 t0 #[u] ∧ Blk Wf (B0 + 1) ti #[.int .i64 ((k + 1 : Nat) : Int)] ∧ Mod F w Wf ∧ KeepsFrom B W Wf ∧ (∀ j, (j = box ∨ j = b) → Wf.heap[j]? = W.heap[j]?) := by
  subst hWf
  have m3 := mod_set wc (B0 + 1) 0 (.int .i64 ((k + 1 : Nat) : Int))
  refine ⟨h.mod m3 (fun k hk he => by have := hF k hk; omega), b0.mod m3 (by omega), ?_, mm.trans' m3 (fun i hi he => by omega), ?_, ?_⟩
  · simpa using b1.set_ 0 (.int .i64 ((k + 1 : Nat) : Int))
  · have k1 : KeepsFrom B W wc := ⟨bel.size, fun j o _ hj _ => (bel.block j (Array.getElem?_eq_some_iff.1 hj).1).trans hj⟩
    exact k1.trans ((KeepsOthers.setCell _ _ _).from B)
  · intro j hj
    have hne : j ≠ B0 + 1 ∧ j < W.heap.size := by rcases hj with rfl | rfl <;> omega
    rw [Below.heap_setCell _ _ _ _ hne.1, bel.block j hne.2]

theorem crashD_congr {cs cs' : List Int} (h : ∀ k, Dk.choice cs' k = Dk.choice cs k) : ∀ (P : List Dk.Wr) (i : Nat) (d : List Dk.Str), Dk.crashD cs' i P d = Dk.crashD cs i P d := by
  intro P
  induction P with
  | nil => intro i d; rfl
  | cons x P ih => intro i d; rw [Dk.crashD, Dk.crashD, h, ih]

set_option maxRecDepth 20000 in
set_option maxHeartbeats 4000000 in
theorem crash_spec (F : Nat → Prop) (d : Nat) (S : Dk.Ds) (A : Option Addr) (cs : List Int) (c : Nat) (w : World) (h : Dsk w F d S) (hR : Rd w A (ints cs)) (hl : cs.length ≤ 9223372036854775807) (hA : cs ≠ [] → ∀ p, A = some p → ¬ F p.block) (hP : S.pend.length ≤ 1099511627776) :
    Calls Try.prog 24 #[.pointer (some ⟨d, 0, none⟩), .slice A cs.length c] w (DskP F d (Dk.crash S cs) (.tuple #[]) w) := by
  have hfb := h.fb
  obtain ⟨m, n, v0, v1, v4, D, h⟩ := h
  obtain ⟨A0, c0, rfl, hx0, hy0⟩ := own_form h.dur
  obtain ⟨A1, c1, rfl, hx1, hy1⟩ := own_form h.pen
  have hdl := h.blk.lt
  have kE := fun w' (hb : Below w.heap.size w w') => endless_spec A cs c w' (hR.below hb) hl
  have HH := Lib.hid (And.intro h hR)
  clear h hx0 hy0 hx1 hy1 hR
  refine (callsIn_wide (n := 4)).1 ?_
  refine callsIn_of_wp_marks Try.func24 rfl trivial ?_ rfl
  simp only [Try.ntmps24, List.size_toArray, List.length_cons, List.length_nil, Nat.reduceAdd, Nat.reduceSub, Array.replicate_succ, Array.replicate_zero, List.push_toArray, List.append_toArray, List.nil_append, List.cons_append]
  gi_wp2_with fail
  refine ⟨trivial, ?_⟩
  refine (callsIn_wide.2 (kE _ ?_)).mono ?_
  · exact ((Below.refl _ w).alloc (Nat.le_refl _) _).alloc (by simp) _
  rintro e w1 ⟨box, b, off, cc, cs', rfl, hbox, hcs, hpos, hlen, hch, hb1, hbx, hbb⟩
  gi_wp2_with fail
  have bB0 : Blk w1 w.heap.size 25 #[.pointer (some ⟨d, 0, none⟩)] := ((Blk.new w _ _).alloc _).below hb1
  have bB1 : Blk w1 (w.heap.size + 1) 3 #[.int .i64 0] := (by simpa using Blk.new (w.alloc (.cells #[.pointer (some ⟨d, 0, none⟩)] 25)) 3 #[.int .i64 0] : Blk ((w.alloc (.cells #[.pointer (some ⟨d, 0, none⟩)] 25)).alloc (.cells #[.int .i64 0] 3)) (w.heap.size + 1) 3 #[.int .i64 0]).below hb1
  have bel : Below w.heap.size w w1 := (((Below.refl _ w).alloc (Nat.le_refl _) _).alloc (by simp) _).trans (hb1.mono (by simp; omega))
  have hsz : w.heap.size + 2 ≤ w1.heap.size := by have := hb1.size; simp at this; omega
  have hbl := World.block_lt_of_cell? w1 _ hbox
  have hcl := World.block_lt_of_cell? w1 _ (hcs 0 hpos)
  simp at hbx hbl hcl
  have hbR : w.heap.size + 2 ≤ b ∨ (b < w.heap.size ∧ ¬ F b) := by
    rcases hbb with e | ⟨⟨q, hq, rfl⟩, hp0⟩
    · left; simp at e; omega
    · right
      obtain ⟨q', hq', hlt⟩ := HH.out.2.lt (by intro e; have := congrArg List.length e; rw [ints_length] at this; simp at this; subst this; simp at hp0)
      rw [hq] at hq'
      injection hq' with hq'
      subst hq'
      exact ⟨hlt, hA (by intro e; subst e; simp at hp0) _ hq⟩
  have H1 := Lib.hid (And.intro hch (And.intro hbb (And.intro bel (And.intro bB0 bB1))))
  clear hch hbb bel bB0 bB1 hb1
  refine rangeB (F := Fence.wide) (n := 4) rfl (by omega) (gf := 48) (lb := #[.pointer (some ⟨box, 0, none⟩)]) rfl trivial (enters_of Try.func48 (by kernel_rfl) rfl)
    (fun k => .int .i64 (Dk.choice cs' k)) (fun k => k = box ∨ k = b) S.pend.length (endless1_spec 3 box b off cc S.pend.length cs' (by omega) w1 hbox hcs hpos hlen) (by rintro k (e | e) <;> omega)
    (fun k W => k ≤ S.pend.length ∧ DkV W F d m n (.slice A0 S.dur.length c0) (.slice A1 S.pend.length c1) v4 D { S with dur := Dk.crashD cs' 0 (S.pend.take k) S.dur } ∧ Blk W w.heap.size 25 #[.pointer (some ⟨d, 0, none⟩)] ∧ Blk W (w.heap.size + 1) 3 #[.int .i64 k] ∧ Mod F w W)
    (fun k W => DkV W F d m n (.slice A0 S.dur.length c0) (.slice A1 S.pend.length c1) v4 D { S with dur := Dk.crashD cs' 0 S.pend S.dur } ∧ Mod F w W ∧ Blk W w.heap.size 25 #[.pointer (some ⟨d, 0, none⟩)])
    ?hI ?hIx (fun k W h => h.1) ?h0
    (fun k => { tmps := #[.pointer (some ⟨d, 0, none⟩), .slice A cs.length c, .pointer (some ⟨w.heap.size, 0, none⟩), undef, .pointer (some ⟨w.heap.size + 1, 0, none⟩), .int .i64 (Dk.choice cs' k), undef, .slice A cs.length c, .func (.func 48) #[] #[.pointer (some ⟨box, 0, none⟩)], .int .i64 (Dk.choice cs' k), undef, undef, undef, undef, undef, undef, undef, undef, undef, undef, undef, undef, undef, undef, undef, undef, undef, undef, undef, undef, undef, undef, undef, undef, undef, undef, undef, undef, undef, undef, undef, undef, undef, undef, undef, undef, undef, undef, undef], defers := [] }) 0 ?assign ?body ?stop
  case hI =>
    rintro k W W' ⟨a1, a2, a3, a4, a5⟩ hb
    have hm := mod_below hb
    exact ⟨a1, a2.mod hm (fun j hj he => by have := hfb j hj; omega), a3.mod hm (by omega), a4.mod hm (by omega), a5.trans' hm (fun i hi he => by omega)⟩
  case hIx =>
    rintro k W W' ⟨a2, a5, a3⟩ hb
    have hm := mod_below hb
    exact ⟨a2.mod hm (fun j hj he => by have := hfb j hj; omega), a5.trans' hm (fun i hi he => by omega), a3.mod hm (by omega)⟩
  case h0 =>
    refine ⟨Nat.zero_le _, ?_, H1.out.2.2.2.1, H1.out.2.2.2.2, (Mod.of_below H1.out.2.2.1 _)⟩
    exact HH.out.1.mod (Mod.of_below H1.out.2.2.1 (fun _ => False)) (fun _ _ h => h)
  case assign =>
    intro l k W K hK
    gi_wp2
    exact hK
  case body =>
    rintro l k W ⟨hk, h, b0, b1, mm⟩ hsz2
    have hmix : Try.prog.follows .mixedOrders = true := by kernel_rfl
    have kd := b0.cell 0
    have ki := b1.cell 0
    have k1 := h.blk.cell 1
    simp at kd ki k1
    have hs1 : w.heap.size < W.heap.size := b0.lt
    have hs2 : w.heap.size + 1 < W.heap.size := b1.lt
    have hdW := h.blk.lt
    have hkB : Below W.heap.size W W.drew := (Below.refl _ W).drew
    by_cases hlt : k = S.pend.length
    · have ht : ((k : Int) == (S.pend.length : Int)) = true := by simp [hlt]
      have HB := Lib.hid (And.intro h (And.intro b0 (And.intro b1 (And.intro mm hlt))))
      clear h b0 b1 mm hlt
      gi_wp2
      refine wpIn_round_quiet (by kernel_rfl) (by kernel_rfl) (by kernel_rfl) ?_
      repeat (go_big_quiet_step (fail))
      refine wpQuiet_nil ?_
      intro _ hw'
      obtain ⟨nq, hw''⟩ := hw'
      subst hw''
      gi_wp2
      have hkB : Below W.heap.size W (W.drewN nq) := ((Mod.refl (fun _ => False) W).drewN nq).below (Nat.le_refl _) (fun _ _ h => h)
      refine ⟨⟨Nat.le_refl _, fun _ _ _ h _ => h⟩, rfl, ?_, ?_, ?_⟩
      · have h := HB.out.1
        rw [HB.out.2.2.2.2, List.take_length] at h
        exact h.mod (Mod.of_below hkB (fun _ => False)) (fun _ _ h => h)
      · exact HB.out.2.2.2.1.trans ((Mod.refl _ W).drewN nq)
      · exact HB.out.2.1
    · have ht : ((k : Int) == (S.pend.length : Int)) = false := by rw [beq_eq_false_iff_ne]; omega
      have hlt' : k < S.pend.length := by omega
      obtain ⟨bb, bo, rfl, hbbl, hcc⟩ := rd_elem (fun x : Dk.Wr => [.int .i64 x.1, .string ⟨x.2.toArray⟩]) 2 (fun _ => rfl) (Rd.of_own h.pen) hlt' (by omega)
      have hc0 := hcc 0 _ rfl
      have hc1 := hcc 1 _ rfl
      obtain ⟨hok1, hok2⟩ := HH.out.1.ok _ (List.getElem_mem hlt')
      have hst : Dk.crashD cs' 0 (S.pend.take (k + 1)) S.dur = Dk.put3 (Dk.choice cs' k) (Dk.crashD cs' 0 (S.pend.take k) S.dur) S.pend[k] := by
        rw [List.take_succ_eq_append_getElem hlt', Dk.crashD_snoc]
        simp only [List.length_take, Nat.zero_add]
        rw [Nat.min_eq_left (by omega)]
      obtain ⟨⟨p, x⟩, hpx⟩ : ∃ q, S.pend[k] = q := ⟨_, rfl⟩
      simp only at hc0 hc1
      rw [hpx] at hc0 hc1 hok1 hst
      simp only [Nat.add_zero] at hc0 hc1 hok1 hst
      have hi0 : (0 : Int) ≤ (k : Int) := by omega
      have hi1 : (k : Int) < (S.pend.length : Int) := by omega
      have HB := Lib.hid (And.intro h (And.intro b0 (And.intro b1 (And.intro mm (And.intro hst (And.intro hpx hok1))))))
      clear h b0 b1 mm hlt hcc hst hpx hok1 hok2
      dsimp only
      gi_wp2
      refine wpIn_round_quiet (by kernel_rfl) (by kernel_rfl) (by kernel_rfl) ?_
      repeat (go_big_quiet_step (fail))
      refine wpQuiet_nil ?_
      intro _ hw'
      obtain ⟨nq, hw''⟩ := hw'
      subst hw''
      gi_wp2
      have hB4 : Below W.heap.size W (W.drewN nq) := ((Mod.refl (fun _ => False) W).drewN nq).below (Nat.le_refl _) (fun _ _ h => h)
      generalize W.drewN nq = W4 at hB4 ⊢
      have kd4 := below_cell hB4 kd
      have ki4 := below_cell hB4 ki
      have k14 := below_cell hB4 k1
      have hc04 := below_cell hB4 hc0
      have hc14 := below_cell hB4 hc1
      have hs4 := hB4.size
      have hb4 : bb < W4.heap.size := by omega
      have hd4 : d < W4.heap.size := by omega
      have hw4 : w.heap.size + 1 < W4.heap.size := by omega
      have hw4b : w.heap.size < W4.heap.size := by omega
      have HB4 := Lib.hid hB4
      clear hB4 kd ki k1 hc0 hc1 hbbl hdW hs1 hs2
      gi_upto_region 5 with fail
      gi_cut [6] from 10 (fun s6 wx => s6 = .pointer (some ⟨W4.heap.size, 0, none⟩) ∧ Blk wx W4.heap.size 79 #[.int .i64 p, .string ⟨x.toArray⟩] ∧ Below W4.heap.size W4 wx)
      case first =>
        gi_region_with_o (fail)
        all_goals (gi_wp2_with fail; gi_meet; first | exact ⟨rfl, Blk.new W4 _ _, (Below.refl _ W4).alloc (Nat.le_refl _) _⟩ | exact ⟨rfl, Blk.new W4 _ _, ((Below.refl _ W4).alloc (Nat.le_refl _) _).drew⟩ | exact ⟨rfl, Blk.new W4 _ _, ((Below.refl _ W4).alloc (Nat.le_refl _) _).drew.drew⟩)
      case rest =>
          obtain ⟨rfl, bw, bel4⟩ := hcut
          have bel2 : Below W.heap.size W wc := HB4.out.trans (bel4.mono HB4.out.size)
          obtain ⟨h, b0, b1, mm, hst, hpx, hok1⟩ := HB.out
          have hlen : (Dk.crashD cs' 0 (S.pend.take k) S.dur).length = S.dur.length := Dk.crashD_length _ _ _ _
          obtain ⟨g, rfl, hgl⟩ := own_some h.dur (by rw [hlen]; omega)
          obtain ⟨old, hold⟩ := row_cell h.dur (j := p) (by rw [hlen]; exact hok1)
          have hfz := row_frozen h.dur p
          have hma := Mod.of_below bel2 (fun _ => False)
          have h' := h.mod hma (fun _ _ h => h)
          have b0' := b0.below bel2
          have b1' := b1.below bel2
          have hold' := below_cell bel2 hold
          have hfz' : wc.frozen? ⟨g, p, none⟩ = false := (bel2.frozen (p := ⟨g, p, none⟩) hgl).trans hfz
          have mm' := mm.trans (hma.mono (fun _ _ h => h.elim))
          have kd := b0'.cell 0
          have ki := b1'.cell 0
          have k0 := h'.blk.cell 0
          have kw0 := bw.cell 0
          have kw1 := bw.cell 1
          have fi := b1'.frozen 0
          simp at kd ki k0 kw0 kw1
          have hwsz := bel2.size
          have hgF : F g := h.f0 g rfl
          have hg0 := hfb g hgF
          have hp0 : (0 : Int) ≤ (p : Int) := by omega
          have hp1 : (p : Int) < (S.dur.length : Int) := by omega
          have HK := Lib.hid (And.intro h' (And.intro b0' (And.intro b1' (And.intro mm' (And.intro hst hpx)))))
          have HL := Lib.hid bel2
          clear h b0 b1 mm hst hpx hlen hold hfz hma h' b0' b1' mm' bw bel2
          obtain ⟨ch, hch⟩ : ∃ ch, Dk.choice cs' k = ch := ⟨_, rfl⟩
          rw [hch] at HK ⊢
          have HC := Lib.hid hch
          clear hch
          by_cases e1 : ch = 1
          · subst e1
            gi_wp2
            refine wpIn_round_tail 9 (by kernel_rfl) (by kernel_rfl) (by kernel_rfl) ?_
            simp only [List.take_succ_cons, List.take_zero, List.drop_succ_cons, List.drop_zero]
            repeat still_step
            refine wpStill_nil ?_
            change wpList _ _ _ _ _ wc.drew
            go_wp2_with fail
            have ki' : (wc.setCell ⟨g, p, none⟩ (.string ⟨(x).toArray⟩)).cell? ⟨w.heap.size + 1, 0, none⟩ = some (.int .i64 k) := (Blk.far HK.out.2.2.1 (p := ⟨g, p, none⟩) (by show w.heap.size + 1 ≠ g; omega) _).cell 0
            have fi' : (wc.setCell ⟨g, p, none⟩ (.string ⟨(x).toArray⟩)).frozen? ⟨w.heap.size + 1, 0, none⟩ = false := (Blk.far HK.out.2.2.1 (p := ⟨g, p, none⟩) (by show w.heap.size + 1 ≠ g; omega) _).frozen 0
            gi_wp2
            obtain ⟨f1, f2, f3, f4, f5, f6⟩ := crash_fin (Wf := ((wc.setCell ⟨g, p, none⟩ (.string ⟨(x).toArray⟩)).setCell ⟨w.heap.size + 1, 0, none⟩ (.int .i64 ((k + 1 : Nat) : Int))).drew) HK.out.1 HK.out.2.1 HK.out.2.2.1 hfb HK.out.2.2.2.1 rfl HL.out (by omega) hbR (by omega) (by omega) rfl w1.heap.size
            have hnew : Dk.crashD cs' 0 (S.pend.take (k + 1)) S.dur = (Dk.crashD cs' 0 (S.pend.take k) S.dur).set p (x) := by rw [HK.out.2.2.2.2.1]; simp [Dk.put3]
            refine ⟨f5, f6, ⟨by omega, ?_, f2, f3, f4⟩⟩
            rw [hnew]
            exact f1
          by_cases e2 : ch = 2
          · subst e2
            gi_wp2
            refine wpIn_round_tail 7 (by kernel_rfl) (by kernel_rfl) (by kernel_rfl) ?_
            simp only [List.take_succ_cons, List.take_zero, List.drop_succ_cons, List.drop_zero]
            repeat still_step
            refine wpStill_nil ?_
            change wpList _ _ _ _ _ wc.drew
            go_wp2_with fail
            have ki' : (wc.setCell ⟨g, p, none⟩ (.string ⟨(Dk.unread).toArray⟩)).cell? ⟨w.heap.size + 1, 0, none⟩ = some (.int .i64 k) := (Blk.far HK.out.2.2.1 (p := ⟨g, p, none⟩) (by show w.heap.size + 1 ≠ g; omega) _).cell 0
            have fi' : (wc.setCell ⟨g, p, none⟩ (.string ⟨(Dk.unread).toArray⟩)).frozen? ⟨w.heap.size + 1, 0, none⟩ = false := (Blk.far HK.out.2.2.1 (p := ⟨g, p, none⟩) (by show w.heap.size + 1 ≠ g; omega) _).frozen 0
            gi_wp2
            obtain ⟨f1, f2, f3, f4, f5, f6⟩ := crash_fin (Wf := ((wc.setCell ⟨g, p, none⟩ (.string ⟨(Dk.unread).toArray⟩)).setCell ⟨w.heap.size + 1, 0, none⟩ (.int .i64 ((k + 1 : Nat) : Int))).drew) HK.out.1 HK.out.2.1 HK.out.2.2.1 hfb HK.out.2.2.2.1 rfl HL.out (by omega) hbR (by omega) (by omega) rfl w1.heap.size
            have hnew : Dk.crashD cs' 0 (S.pend.take (k + 1)) S.dur = (Dk.crashD cs' 0 (S.pend.take k) S.dur).set p (Dk.unread) := by rw [HK.out.2.2.2.2.1]; simp [Dk.put3]
            refine ⟨f5, f6, ⟨by omega, ?_, f2, f3, f4⟩⟩
            rw [hnew]
            exact f1
          · have e1' : (ch == 1) = false := by rw [beq_eq_false_iff_ne]; exact e1
            have e2' : (ch == 2) = false := by rw [beq_eq_false_iff_ne]; exact e2
            have HE := Lib.hid (And.intro e1 e2)
            clear e1 e2
            gi_wp2
            obtain ⟨f1, f2, f3, f4, f5, f6⟩ := crash_fin0 (Wf := wc.setCell ⟨w.heap.size + 1, 0, none⟩ (.int .i64 ((k + 1 : Nat) : Int))) HK.out.1 HK.out.2.1 HK.out.2.2.1 hfb HK.out.2.2.2.1 rfl HL.out (by omega) hbR (by omega) (by omega) rfl w1.heap.size
            have hnew : Dk.crashD cs' 0 (S.pend.take (k + 1)) S.dur = Dk.crashD cs' 0 (S.pend.take k) S.dur := by rw [HK.out.2.2.2.2.1]; simp [Dk.put3, HE.out.1, HE.out.2]
            refine ⟨f5, f6, ⟨by omega, ?_, f2, f3, f4⟩⟩
            rw [hnew]
            exact f1
  case stop =>
    rintro D2 k W hD ⟨h, mm, b0⟩ hdf
    have kd := b0.cell 0
    simp at kd
    have hd1 : Dsk W F d { S with dur := Dk.crashD cs' 0 S.pend S.dur } := ⟨_, _, _, _, _, _, h⟩
    have HS := Lib.hid (And.intro hd1 (And.intro mm hdf))
    clear h mm b0 hdf
    gi_wp2_with fail
    refine ⟨trivial, ?_⟩
    refine (callsIn_wide.2 (forget_spec F d _ W HS.out.1)).mono ?_
    rintro e w3 ⟨rfl, D3, m3⟩
    gi_wp2
    have hlt2 : D2 < W.heap.size := (Array.getElem?_eq_some_iff.1 HS.out.2.2).1
    have hd3 : w3.heap[D2]? = some (Obj.deferred (some [])) := (m3.block D2 hlt2 (fun h => by have := hfb _ h; omega)).trans HS.out.2.2
    refine ⟨by simp, .inl ⟨_, _, rfl, run_takeDeferred hd3, ?_⟩⟩
    have hp : Below w.heap.size w3 (w3.putObj D2 (.deferred none)) := below_put (by omega) _
    have hmp : Mod (fun k => k = D2) w3 (w3.putObj D2 (.deferred none)) := ⟨rfl, rfl, rfl, by simp, fun k hk hn => World.putObj_heap_other (by omega)⟩
    have D4 := D3.mod hmp (fun k hk he => by
      rcases hk with hk | hk
      · have := hfb k hk; omega
      · omega)
    have hsW := HS.out.2.1.size
    have hs3 := m3.size
    have hs5 : (w3.putObj D2 (.deferred none)).heap.size = w3.heap.size := by simp
    have heq : { S with dur := Dk.crashD cs' 0 S.pend S.dur, pend := [] } = Dk.crash S cs := by unfold Dk.crash; rw [crashD_congr H1.out.1]
    refine ⟨_, results_none rfl _ _ _, rfl, ?_, (HS.out.2.1.trans m3).trans' hmp (fun i hi he => by omega)⟩
    rw [← heq]
    refine D4.wide (fun k hk => ?_) (grow_lt hfb (by omega))
    rcases hk with hk | hk
    · exact .inl hk
    · exact .inr ⟨by omega, by omega⟩
end Go.Proofs.Ytepdfeegklinfaa
