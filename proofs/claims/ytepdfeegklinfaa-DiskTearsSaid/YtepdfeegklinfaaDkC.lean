/-
  The methods of a disk: Sync, Record, New. Conditions: a disk has at most 2^40 pending writes and recorded operations.
-/
import Derived.Test.YtepdfeegklinfaaDkB
namespace Go.Proofs.Ytepdfeegklinfaa
set_option linter.unusedVariables false
open Go.RowKit Go.ChangeMaps Go.MapKept

theorem strs_set (L : List Dk.Str) (p : Nat) (x : Dk.Str) : strs (L.set p x) = (strs L).set p (.string ⟨x.toArray⟩) := by simp [strs, List.map_set]
theorem own_len {w : World} {base : Nat} {e : TypeId} {size n l c : Nat} {A : Option Addr} {xs : List Value} (h : w.ownsRow base e size (.slice A l c) n xs) : l = n := by
  rcases h.2 with ⟨h2, h3⟩ | ⟨g, cap, cur, hv, _⟩
  · injection h2 with _ h2 _; omega
  · injection hv with _ h2 _
theorem own_some {w : World} {base : Nat} {e : TypeId} {size n l c : Nat} {A : Option Addr} {xs : List Value} (h : w.ownsRow base e size (.slice A l c) n xs) (hn : 0 < n) : ∃ g, A = some ⟨g, 0, none⟩ ∧ g < w.heap.size := by
  rcases h.2 with ⟨h2, h3⟩ | ⟨g, cap, cur, hv, _, hg, _⟩
  · omega
  · injection hv with hv _ _
    exact ⟨g, hv, (Array.getElem?_eq_some_iff.1 hg).1⟩
theorem row_cell {w : World} {base : Nat} {e : TypeId} {n l c g : Nat} {xs : List Value} (h : w.ownsRow base e 1 (.slice (some ⟨g, 0, none⟩) l c) n xs) {j : Nat} (hj : j < n) : ∃ u, w.cell? ⟨g, j, none⟩ = some u := by
  obtain rfl := own_len h
  have := h.1
  exact ⟨_, (h.cellAt j (by omega)).trans (List.getElem?_eq_getElem (by omega))⟩
theorem row_frozen {w : World} {base : Nat} {e : TypeId} {size n l c g : Nat} {xs : List Value} (h : w.ownsRow base e size (.slice (some ⟨g, 0, none⟩) l c) n xs) (j : Nat) : w.frozen? ⟨g, j, none⟩ = false := by
  obtain rfl := own_len h
  exact h.frozenAt j
/-- a page of the disk is written -/
theorem DkV.put0 {F : Nat → Prop} {w : World} {d m n g l c : Nat} {v1 v4 : Value} {D : DataW Unit} {S : Dk.Ds} (h : DkV w F d m n (.slice (some ⟨g, 0, none⟩) l c) v1 v4 D S) (p : Nat) (x : Dk.Str) :
    DkV (w.setCell ⟨g, p, none⟩ (.string ⟨x.toArray⟩)) F d m n (.slice (some ⟨g, 0, none⟩) l c) v1 v4 D { S with dur := S.dur.set p x } ∧ Mod F w (w.setCell ⟨g, p, none⟩ (.string ⟨x.toArray⟩)) := by
  obtain rfl := own_len h.dur
  obtain ⟨hne, n0, n1, n4⟩ := h.ne1
  obtain ⟨q0, q1, q4⟩ := h.ne2
  simp [Value.ownBlock] at n0 q0
  have hm := (mod_set w g p (.string ⟨x.toArray⟩))
  have hs := (h.dur.stored p (.string ⟨x.toArray⟩)).1
  refine ⟨?_, hm.mono (fun i _ e => by subst e; exact h.f0 _ rfl)⟩
  exact { blk := h.blk.mod hm (fun e => n0 e.symm), dur := by simpa [strs_set] using hs, pen := hm.owns h.pen (fun k hk e => own_far h.pen h.dur (by decide) k hk (by rw [e]; rfl)), map := map_mod h.map hm (fun e => q0 e.symm), lat := h.lat, hn := h.hn, rcd := hm.owns h.rcd (fun k hk e => own_far h.rcd h.dur (by decide) k hk (by rw [e]; rfl)), fd := h.fd, fm := h.fm, f0 := h.f0, f1 := h.f1, f4 := h.f4, fb := fun k hk => by simpa [World.setCell] using h.fb k hk, ok := by intro y hy; simpa using h.ok y hy, small := by simpa using h.small }

theorem syncD_take (d : List Dk.Str) (P : List Dk.Wr) (k : Nat) (hk : k < P.length) : Dk.syncD d (P.take (k + 1)) = (Dk.syncD d (P.take k)).set P[k].1 P[k].2 := by
  rw [List.take_succ_eq_append_getElem hk, Dk.syncD_snoc]

set_option maxRecDepth 20000 in
set_option maxHeartbeats 2000000 in
theorem sync_spec (F : Nat → Prop) (d : Nat) (S : Dk.Ds) (w : World) (h : Dsk w F d S) (hR : S.recd.length ≤ 1099511627776) (hP : S.pend.length ≤ 1099511627776) :
    Calls Try.prog 25 #[.pointer (some ⟨d, 0, none⟩)] w (DskP F d (Dk.sync S) (.tuple #[]) w) := by
  have hfb := h.fb
  obtain ⟨m, n, v0, v1, v4, D, h⟩ := h
  obtain ⟨A0, c0, rfl, hx0, hy0⟩ := own_form h.dur
  obtain ⟨A1, c1, rfl, hx1, hy1⟩ := own_form h.pen
  have k1 := h.blk.cell 1
  simp at k1
  have HH := Lib.hid h
  clear h hx0 hy0 hx1 hy1
  go_enter Try.func25, Try.ntmps25
  go_wp2
  go_loopw [9, 3] (fun i _ wr => ∃ k : Nat, k ≤ S.pend.length ∧ i = .int .i64 k ∧ DkV wr F d m n (.slice A0 S.dur.length c0) (.slice A1 S.pend.length c1) v4 D { S with dur := Dk.syncD S.dur (S.pend.take k) } ∧ Mod F w wr) (fun i _ _ => S.pend.length - (intOf i).toNat)
  case atStart => exact ⟨0, Nat.zero_le _, rfl, HH.out, Mod.refl _ _⟩
  case round =>
    obtain ⟨k, hk, rfl, h, mm⟩ := hrel
    by_cases hlt : k < S.pend.length
    · obtain ⟨b, off, rfl, hbl, hc⟩ := rd_elem (fun x : Dk.Wr => [.int .i64 x.1, .string ⟨x.2.toArray⟩]) 2 (fun _ => rfl) (Rd.of_own h.pen) hlt (by omega)
      have hc0 := hc 0 _ rfl
      have hc1 := hc 1 _ rfl
      obtain ⟨hok1, hok2⟩ := HH.out.ok _ (List.getElem_mem hlt)
      have hst := syncD_take S.dur S.pend k hlt
      obtain ⟨⟨p, x⟩, hpx⟩ : ∃ q, S.pend[k] = q := ⟨_, rfl⟩
      simp only at hc0 hc1
      rw [hpx] at hc0 hc1 hok1 hst
      simp only [Nat.add_zero] at hc0 hc1 hok1 hst
      have hi0 : (0 : Int) ≤ (k : Int) := by omega
      have hi1 : (k : Int) < (S.pend.length : Int) := by omega
      have hlen : (Dk.syncD S.dur (S.pend.take k)).length = S.dur.length := Dk.syncD_length _ _
      obtain ⟨g, rfl, hgl⟩ := own_some h.dur (by rw [hlen]; omega)
      obtain ⟨old, hold⟩ := row_cell h.dur (j := p) (by rw [hlen]; exact hok1)
      have hfz := row_frozen h.dur p
      have kd0 := h.blk.cell 0
      simp at kd0
      have hdl := h.blk.lt
      have hp0 : (0 : Int) ≤ (p : Int) := by omega
      have hp1 : (p : Int) < (S.dur.length : Int) := by omega
      have HK := Lib.hid (And.intro h (And.intro mm (And.intro hst (And.intro hlen hpx))))
      clear h mm hst hlen hpx hc hok1 hok2
      go_wp2_with fail
      have G : ∀ W1, wr.alloc (.cells #[.int .i64 p, .string ⟨x.toArray⟩] 79) = W1 → W1.cell? ⟨d, 0, none⟩ = some (.slice (some ⟨g, 0, none⟩) S.dur.length c0) ∧ W1.cell? ⟨wr.heap.size, 0, none⟩ = some (.int .i64 p) ∧ W1.cell? ⟨wr.heap.size, 1, none⟩ = some (.string ⟨x.toArray⟩) ∧ W1.cell? ⟨g, p, none⟩ = some old ∧ W1.frozen? ⟨g, p, none⟩ = false := by
        rintro W1 rfl
        have hbn := Blk.new wr 79 #[.int .i64 p, .string ⟨x.toArray⟩]
        have ab : Below wr.heap.size wr (wr.alloc (.cells #[.int .i64 p, .string ⟨x.toArray⟩] 79)) := (Below.refl _ wr).alloc (Nat.le_refl _) _
        exact ⟨below_cell ab kd0, hbn.cell 0, hbn.cell 1, below_cell ab hold, (ab.frozen (p := ⟨g, p, none⟩) hgl).trans hfz⟩
      generalize hW1 : wr.alloc (.cells #[.int .i64 p, .string ⟨x.toArray⟩] 79) = W1
      obtain ⟨G1, G2, G3, G4, G5⟩ := G W1 hW1
      have HW := Lib.hid hW1
      clear G hW1 hold hfz kd0
      go_still_tail 9, (by kernel_rfl)
      change wpList _ _ _ _ _ W1.drew
      go_wp2_with fail
      go_roundw
      case rel =>
        obtain ⟨h1, h2, h3, h4, h5⟩ := HK.out
        have hal : Below wr.heap.size wr W1.drew := by rw [← HW.out]; exact ((Below.refl _ wr).alloc (Nat.le_refl _) _).drew
        have hma := Mod.of_below hal (fun _ => False)
        have ha := h1.mod hma (fun _ _ h => h)
        obtain ⟨q1, q2⟩ := ha.put0 p x
        refine ⟨k + 1, by omega, by go_num, ?_, h2.trans ((hma.mono (fun _ _ h => h.elim)).trans q2)⟩
        rw [h3]
        exact q1
      case measure => simp [intOf]; omega
    · obtain rfl : k = S.pend.length := by omega
      rw [List.take_length] at h
      have D1 : Dsk wr F d { S with dur := Dk.syncD S.dur S.pend } := ⟨_, _, _, _, _, _, h⟩
      have hfw := h.fb
      have HM := Lib.hid mm
      clear h mm
      go_wp2_with fail
      refine (forget_spec F d _ wr D1).mono ?_
      rintro e w2 ⟨rfl, D2, m2⟩
      go_wp2_with fail
      refine (record_spec _ d _ 0 [] true w2 D2 hR).mono ?_
      rintro e w3 ⟨rfl, D3, m3⟩
      go_wp2
      go_end0
      refine ⟨rfl, ?_, HM.out.trans (mod_grow m2 m3)⟩
      refine (D3.grow_trans m2.size m3.size hfw).wide (fun k hk => ?_) (grow_lt hfb (by have := HM.out.size; have := m2.size; have := m3.size; omega))
      rcases hk with hk | hk
      · exact .inl hk
      · exact .inr ⟨by have := HM.out.size; omega, hk.2⟩

def blank (n : Nat) : Dk.Ds := ⟨List.replicate n [], [], false, []⟩
/-- a new disk, all of its blocks new -/
def NewP (S : Dk.Ds) (w : World) (e : Ending) (w' : World) : Prop := ∃ d, e = .returned (.pointer (some ⟨d, 0, none⟩)) ∧ Dsk w' (fun k => w.heap.size ≤ k ∧ k < w'.heap.size) d S ∧ Below w.heap.size w w'
def NewP2 (S : Dk.Ds) (w : World) (e : Ending) (w' : World) : Prop := ∃ d, e = .returned (.tuple #[.pointer (some ⟨d, 0, none⟩), .int .i64 0]) ∧ Dsk w' (fun k => w.heap.size ≤ k ∧ k < w'.heap.size) d S ∧ Below w.heap.size w w'
theorem info_str : (Try.prog.info? 9).map (fun i => (i.zero, i.size, i.bytes)) = some (some (.string ⟨#[]⟩), 1, 16) := by kernel_rfl
theorem made_blank (n : Nat) : (madeCells (Value.cells (.string ⟨#[]⟩)) (n * 1)).toList = strs (List.replicate n []) := by
  simp only [Value.cells, Nat.mul_one]
  rw [toList_madeCells_one]
  simp [strs, List.map_replicate]

theorem new_dk (n : Nat) (hn : n ≤ 4096) (w w1 : World) (v0 : Value) (ho : w1.ownsRow w.heap.size 9 1 v0 n (strs (List.replicate n []))) (hg : w.grownBy w1 none) :
    Dsk ((w1.alloc (.map #[] 0)).alloc (.cells #[v0, .slice none 0 0, .map (some w1.heap.size), .bool false, .slice none 0 0] 73)) (fun k => w.heap.size ≤ k ∧ k < w1.heap.size + 2) (w1.heap.size + 1) (blank n) ∧
    Below w.heap.size w ((w1.alloc (.map #[] 0)).alloc (.cells #[v0, .slice none 0 0, .map (some w1.heap.size), .bool false, .slice none 0 0] 73)) := by
  have hs := hg.size
  refine ⟨⟨w1.heap.size, 0, v0, .slice none 0 0, .slice none 0 0, .map [], ?_⟩, ((((Below.refl _ w).grown hg (Nat.le_refl _) (fun k e => by cases e)).alloc (by omega) _).alloc (by simp; omega) _)⟩
  have hd : (w1.alloc (.map #[] 0)).heap.size = w1.heap.size + 1 := by simp
  exact { blk := by have := Blk.new (w1.alloc (.map #[] 0)) 73 #[v0, .slice none 0 0, .map (some w1.heap.size), .bool false, .slice none 0 0]; rw [hd] at this; exact this, dur := owns_base (by simpa [blank] using (ho.alloc (.map #[] 0)).alloc _) (fun k hk => Nat.zero_le _), pen := World.ownsRow_nil _ _ _ _, map := (World.ownsMap_made w1 _ _ _).alloc _, lat := Dk.latOk_nil, hn := Nat.le_refl _, rcd := World.ownsRow_nil _ _ _ _, fd := ⟨by omega, by omega⟩, fm := ⟨by omega, by omega⟩, f0 := fun k hk => ⟨(ho.lt k hk).1, by have := (ho.lt k hk).2; omega⟩, f1 := fun k hk => by simp [Value.ownBlock] at hk, f4 := fun k hk => by simp [Value.ownBlock] at hk, fb := fun k hk => by simp; omega, ok := by intro x hx; simp [blank] at hx, small := by simpa [blank] using hn }
theorem new_no (p : Int) (w : World) (h : p < 1 ∨ 4096 < p) :
    Calls Try.prog 12 #[.int .i64 p] w fun e w' => e = .returned (.tuple #[.pointer none, .int .i64 2]) ∧ w = w' := by
  rcases h with h | h
  · go_enter Try.func12, Try.ntmps12
    go_wp2
    go_ret2
    exact ⟨rfl, rfl⟩
  · have h1 : decide (p < 1) = false := by simp; omega
    go_enter Try.func12, Try.ntmps12
    go_wp2
    go_ret2
    exact ⟨rfl, rfl⟩
set_option maxRecDepth 20000 in
set_option maxHeartbeats 1000000 in
theorem new_spec (n : Nat) (w : World) (h1 : 1 ≤ n) (h2 : n ≤ 4096) :
    Calls Try.prog 12 #[.int .i64 n] w (NewP2 (blank n) w) := by
  have d1 : decide ((n : Int) < 1) = false := by simp; omega
  have d2 : decide (4096 < (n : Int)) = false := by simp; omega
  have e1 : 1 ≤ (n : Int) := by omega
  have e2 : (n : Int) ≤ 4096 := by omega
  obtain ⟨i0, hi, hz0, hz1, hz2⟩ := info_parts info_str
  have hmm := @run_makeMap Try.prog
  go_enter Try.func12, Try.ntmps12
  go_wp2_with (at_make; go_must (refine wpList_make_full _ rfl _ _ 29 rfl w.heap.size 9 i0 (.string ⟨#[]⟩) 1 Try.underlying29 hi hz0 hz1 .i64 .i64 _ _ n rfl rfl rfl rfl (by rw [hz2]; omega) (by unfold maxLen; omega) (Nat.le_refl _) ?_); intro w1 hown1 hg1)
  go_ret2
  rw [made_blank] at hown1
  obtain ⟨q1, q2⟩ := new_dk n h2 w w1 _ hown1 hg1
  exact ⟨_, rfl, by simpa using q1, q2⟩

/-- what Record leaves: the recorded operations come back, and the disk has let go of them -/
def RecP (F : Nat → Prop) (d : Nat) (S : Dk.Ds) (t : Bool) (w : World) (e : Ending) (w' : World) : Prop :=
  ∃ v, e = .returned v ∧ w'.ownsRow 0 38 3 v S.recd.length (ops S.recd) ∧ (∀ k, v.ownBlock = some k → F k) ∧ Dsk w' (fun k => F k ∧ v.ownBlock ≠ some k) d { S with rc := t, recd := [] } ∧ Mod (fun k => k = d) w w' ∧ F d
theorem recordOn_spec (F : Nat → Prop) (d : Nat) (S : Dk.Ds) (t : Bool) (w : World) (h : Dsk w F d S) :
    Calls Try.prog 26 #[.pointer (some ⟨d, 0, none⟩), .bool t] w (RecP F d S t w) := by
  obtain ⟨m, n, v0, v1, v4, D, h⟩ := h
  have k3 := h.blk.cell 3
  have k4 := h.blk.cell 4
  simp at k3 k4
  have f3 := h.blk.frozen 3
  have f4 := h.blk.frozen 4
  obtain ⟨A4, c4, rfl, hx4, hy4⟩ := own_form h.rcd
  have H := Lib.hid h
  clear h hx4 hy4
  go_enter Try.func26, Try.ntmps26
  go_wp2
  go_ret
  have h := H.out
  obtain ⟨hne, n0, n1, n4⟩ := h.ne1
  obtain ⟨q0, q1, q4⟩ := h.ne2
  have hm : Mod (fun k => k = d) w ((w.setCell ⟨d, 3, none⟩ (.bool t)).setCell ⟨d, 4, none⟩ (.slice none 0 0)) := (mod_set w d 3 _).trans (mod_set _ d 4 _)
  refine ⟨.slice A4 S.recd.length c4, rfl, hm.owns h.rcd (fun k hk e => n4 (by rw [hk, e])), h.f4, ⟨m, n, v0, v1, .slice none 0 0, D, ?_⟩, hm, h.fd⟩
  exact { blk := by simpa using (h.blk.set_ 3 (.bool t)).set_ 4 (.slice none 0 0), dur := hm.owns h.dur (fun k hk e => n0 (by rw [hk, e])), pen := hm.owns h.pen (fun k hk e => n1 (by rw [hk, e])), map := map_mod h.map hm (fun e => hne e.symm), lat := h.lat, hn := h.hn, rcd := World.ownsRow_nil _ _ _ _, fd := ⟨h.fd, n4⟩, fm := ⟨h.fm, q4⟩, f0 := fun k hk => ⟨h.f0 k hk, own_far h.dur h.rcd (by decide) k hk⟩, f1 := fun k hk => ⟨h.f1 k hk, own_far h.pen h.rcd (by decide) k hk⟩, f4 := fun k hk => by simp [Value.ownBlock] at hk, fb := fun k hk => by simpa [World.setCell] using h.fb k hk.1, ok := h.ok, small := h.small }
end Go.Proofs.Ytepdfeegklinfaa
