/-
  do: a call of a disk and of its reference. Conditions: at most 2^40 pending writes, records, 4096 pages.
-/
import Derived.Test.YtepdfeegklinfaaDkU
import Derived.Deep.RegionHeld3
namespace Go.Proofs.Ytepdfeegklinfaa
set_option linter.unusedVariables false
open Go.RowKit Go.ChangeMaps Go.MapKept

theorem far2 (w : World) {r b : Nat} (i : Nat) (u0 u1 : Value) (h : r ≠ b) : ((w.setCell ⟨r, 0, none⟩ u0).setCell ⟨r, 1, none⟩ u1).cell? ⟨b, i, none⟩ = w.cell? ⟨b, i, none⟩ :=
  (World.cell?_setCell_far _ _ _ _ h).trans (World.cell?_setCell_far _ _ _ _ h)
set_option maxRecDepth 20000 in
set_option maxHeartbeats 4000000 in
theorem do_spec (F G : Nat → Prop) (d : Nat) (v : Value) (S : Dk.Ds) (a : Ac) (w : World) (h : Two w F G d v S) (hR : S.recd.length ≤ 1099511627776) (hP : S.pend.length ≤ 1099511627776) (hd : S.dur.length ≤ 4096)
    (ha : AcOk w a) (hA : a.cs ≠ [] → ∀ p, a.A = some p → ¬ F p.block) :
    Calls Try.prog 15 #[.pointer (some ⟨d, 0, none⟩), v, acV a] w (DoP F G d a S w) := by
  obtain ⟨hD, hV, hI, hX, hL⟩ := h
  have hfb := hD.fb
  have hok := hD.ok
  have hh := hV
  obtain ⟨A0, c0, A1, c1, rfl, r0, r1, n0, n1⟩ := hV
  obtain ⟨kind, ⟨p, x, sy⟩, A, cs, c⟩ := a
  obtain ⟨hRa, hna, hcl, hxl, hk0, hk1⟩ := ha
  dsimp only at *
  obtain ⟨W, hW⟩ : ∃ W, ((w.alloc (.cells #[.slice A0 S.dur.length c0, .slice A1 S.pend.length c1] 32)).alloc (.cells #[.int .u8 kind, .int .i64 p, .string ⟨x.toArray⟩, .bool sy, .slice A cs.length c] 41)).alloc (.cells #[.slice none 0 0, .slice none 0 0] 32) = W := ⟨_, rfl⟩
  have BW : Below w.heap.size w W := by rw [← hW]; exact (((Below.refl _ w).alloc (Nat.le_refl _) _).alloc (by simp) _).alloc (by simp; omega) _
  have b0 : Blk W w.heap.size 32 #[.slice A0 S.dur.length c0, .slice A1 S.pend.length c1] := by rw [← hW]; exact ((Blk.new w _ _).alloc _).alloc _
  have b1 : Blk W (w.heap.size + 1) 41 #[.int .u8 kind, .int .i64 p, .string ⟨x.toArray⟩, .bool sy, .slice A cs.length c] := by
    rw [← hW]
    have q := Blk.new (w.alloc (.cells #[.slice A0 S.dur.length c0, .slice A1 S.pend.length c1] 32)) 41 #[.int .u8 kind, .int .i64 p, .string ⟨x.toArray⟩, .bool sy, .slice A cs.length c]
    rw [World.size_alloc] at q
    exact q.alloc _
  have b2 : Blk W (w.heap.size + 1 + 1) 32 #[.slice none 0 0, .slice none 0 0] := by
    rw [← hW]
    have q := Blk.new ((w.alloc (.cells #[.slice A0 S.dur.length c0, .slice A1 S.pend.length c1] 32)).alloc (.cells #[.int .u8 kind, .int .i64 p, .string ⟨x.toArray⟩, .bool sy, .slice A cs.length c] 41)) 32 #[.slice none 0 0, .slice none 0 0]
    rw [World.size_alloc, World.size_alloc] at q
    exact q
  have hsW : W.heap.size = w.heap.size + 3 := by rw [← hW]; simp
  have HW := Lib.hid hW
  have HB := Lib.hid (And.intro BW (And.intro b0 (And.intro b1 (And.intro b2 hsW))))
  have HH := Lib.hid (And.intro hD (And.intro hh (And.intro hI (And.intro hX (And.intro hL (And.intro hok (And.intro hRa hna)))))))
  clear hW BW b0 b1 b2 hD hh hI hX hL hok hRa hna r0 r1 n0 n1 hsW
  unfold acV
  dsimp only
  have hm3 : kind.tmod 3 = kind % 3 := Int.tmod_eq_emod_of_nonneg hk0
  obtain ⟨m, hm⟩ : ∃ m, kind % 3 = m := ⟨_, rfl⟩
  rw [hm] at hm3
  by_cases e1 : m = 1
  · subst e1
    have hst : stepS S ⟨kind, ⟨p, x, sy⟩, A, cs, c⟩ = Dk.crash S cs := by unfold stepS; rw [if_pos hm]
    unfold DoP
    rw [hst]
    clear hst hm
    go_enter Try.func15, Try.ntmps15
    go_wp2_with fail
    rw [HW.out]
    refine (crash_spec F d S A cs c W (HH.out.1.under HB.out.1) (HH.out.2.2.2.2.2.2.1.below HB.out.1) hcl hA hP).mono ?_
    rintro e w1 ⟨rfl, D1, m1⟩
    have q0 := (HB.out.2.1.mod m1 (fun hf => by have := hfb _ hf; omega))
    have q1 := (HB.out.2.2.1.mod m1 (fun hf => by have := hfb _ hf; omega))
    have q2 := (HB.out.2.2.2.1.mod m1 (fun hf => by have := hfb _ hf; omega))
    have V1 := (HH.out.2.1.below HB.out.1).mod m1 HH.out.2.2.1 HH.out.2.2.2.1
    have R1 : Rd w1 A (ints cs) := by
      by_cases hc : cs = []
      · left; rw [hc]; rfl
      · exact (HH.out.2.2.2.2.2.2.1.below HB.out.1).mod m1 (hA hc)
    have k00 := q0.cell 0
    have k01 := q0.cell 1
    have k14 := q1.cell 4
    simp at k00 k01 k14
    have l0 := q0.lt
    have l1 := q1.lt
    have H1 := Lib.hid (And.intro D1 (And.intro m1 q2))
    clear D1 m1 q0 q1 q2
    go_wp2_with fail
    refine (rcrash_spec _ S.dur S.pend A cs c w1 V1 (fun y hy => (HH.out.2.2.2.2.2.1 y hy).1) R1 HH.out.2.2.2.2.2.2.2 hcl hd hP).mono ?_
    rintro e w2 ⟨v', rfl, V2, hb2, hK⟩
    obtain ⟨A2, c2, A3, c3, rfl, hv2⟩ := id V2
    have q2 := H1.out.2.2.below hb2
    have k20 := q2.cell 0
    have k21 := q2.cell 1
    have f2 := fun i => q2.frozen i
    have l2 := q2.lt
    simp at k20 k21
    have H2 := Lib.hid (And.intro V2 (And.intro hb2 (And.intro hK q2)))
    clear hv2 V2 hb2 hK q2 V1 R1
    go_wp2
    have hend := do_end (W := W) (w1 := w1) (w2 := w2) hfb HH.out.2.2.1 HH.out.2.2.2.1 HH.out.2.2.2.2.1 HB.out.1 (by rw [HB.out.2.2.2.2]; omega) H1.out.1 H1.out.2.1 H2.out.2.1 H2.out.1 H2.out.2.2.1 H2.out.2.2.2
    have e0 := ((H2.out.2.2.2.set_ 0 (.slice A2 S.dur.length c2)).set_ 1 (.slice A3 0 c3)).cell 0
    have e1 := ((H2.out.2.2.2.set_ 0 (.slice A2 S.dur.length c2)).set_ 1 (.slice A3 0 c3)).cell 1
    simp at e0 e1
    rw [Dk.crashD_length] at hend ⊢
    obtain ⟨F', G', t1, t2, t3, t4⟩ := hend
    refine bodyPost_ret (v := .tuple #[.agg #[.slice A2 S.dur.length c2, .slice A3 0 c3], .bool true]) (by simp [results, Try.results15, go_sem, e0, e1]) rfl ?_
    exact ⟨_, F', G', rfl, t1, t2, t3, t4⟩
  by_cases e2 : m = 2
  · subst e2
    have hst : stepS S ⟨kind, ⟨p, x, sy⟩, A, cs, c⟩ = Dk.sync S := by unfold stepS; rw [if_neg (by rw [hm]; decide), if_pos hm]
    unfold DoP
    rw [hst]
    clear hst hm
    go_enter Try.func15, Try.ntmps15
    go_wp2_with fail
    rw [HW.out]
    refine (sync_spec F d S W (HH.out.1.under HB.out.1) hR hP).mono ?_
    rintro e w1 ⟨rfl, D1, m1⟩
    have q0 := (HB.out.2.1.mod m1 (fun hf => by have := hfb _ hf; omega))
    have q2 := (HB.out.2.2.2.1.mod m1 (fun hf => by have := hfb _ hf; omega))
    have V1 := (HH.out.2.1.below HB.out.1).mod m1 HH.out.2.2.1 HH.out.2.2.2.1
    have k00 := q0.cell 0
    have k01 := q0.cell 1
    simp at k00 k01
    have l0 := q0.lt
    have H1 := Lib.hid (And.intro D1 (And.intro m1 q2))
    clear D1 m1 q0 q2
    go_wp2_with fail
    refine (rsync_spec _ S.dur S.pend w1 V1 (fun y hy => (HH.out.2.2.2.2.2.1 y hy).1) hd hP).mono ?_
    rintro e w2 ⟨v', rfl, V2, hb2, hK⟩
    obtain ⟨A2, c2, A3, c3, rfl, hv2⟩ := id V2
    have q2 := H1.out.2.2.below hb2
    have k20 := q2.cell 0
    have k21 := q2.cell 1
    have f2 := fun i => q2.frozen i
    have l2 := q2.lt
    simp at k20 k21
    have H2 := Lib.hid (And.intro V2 (And.intro hb2 (And.intro hK q2)))
    clear hv2 V2 hb2 hK q2 V1
    go_wp2
    have hend := do_end (W := W) (w1 := w1) (w2 := w2) hfb HH.out.2.2.1 HH.out.2.2.2.1 HH.out.2.2.2.2.1 HB.out.1 (by rw [HB.out.2.2.2.2]; omega) H1.out.1 H1.out.2.1 H2.out.2.1 H2.out.1 H2.out.2.2.1 H2.out.2.2.2
    have e0 := ((H2.out.2.2.2.set_ 0 (.slice A2 S.dur.length c2)).set_ 1 (.slice A3 0 c3)).cell 0
    have e1 := ((H2.out.2.2.2.set_ 0 (.slice A2 S.dur.length c2)).set_ 1 (.slice A3 0 c3)).cell 1
    simp at e0 e1
    rw [Dk.syncD_length] at hend ⊢
    obtain ⟨F', G', t1, t2, t3, t4⟩ := hend
    refine bodyPost_ret (v := .tuple #[.agg #[.slice A2 S.dur.length c2, .slice A3 0 c3], .bool true]) (by simp [results, Try.results15, go_sem, e0, e1]) rfl ?_
    exact ⟨_, F', G', rfl, t1, t2, t3, t4⟩
  · have hst : stepS S ⟨kind, ⟨p, x, sy⟩, A, cs, c⟩ = Dk.write S p x := by unfold stepS; rw [if_neg (by rw [hm]; exact e1), if_neg (by rw [hm]; exact e2)]
    have t1 : (m == 1) = false := by rw [beq_eq_false_iff_ne]; exact e1
    have t2 : (m == 2) = false := by rw [beq_eq_false_iff_ne]; exact e2
    unfold DoP
    rw [hst]
    clear hst hm
    go_enter Try.func15, Try.ntmps15
    go_wp2_with fail
    rw [HW.out]
    refine (rwrite_spec _ S.dur S.pend p x W (HH.out.2.1.below HB.out.1) hd hP).mono ?_
    rintro e w1 ⟨v', rfl, V1, hb1, hK⟩
    obtain ⟨A2, c2, A3, c3, rfl, hv2⟩ := id V1
    go_wp2_with fail
    have hs1 := hb1.size
    have BV : Below W.heap.size W (w1.alloc (.cells #[.slice A2 S.dur.length c2, .slice A3 (Dk.wPend S.dur S.pend p x).length c3] 32)) := hb1.alloc hs1 _
    have bt : Blk (w1.alloc (.cells #[.slice A2 S.dur.length c2, .slice A3 (Dk.wPend S.dur S.pend p x).length c3] 32)) w1.heap.size 32 #[.slice A2 S.dur.length c2, .slice A3 (Dk.wPend S.dur S.pend p x).length c3] := Blk.new _ _ _
    have VV := V1.below ((Below.refl _ w1).alloc (Nat.le_refl _) (.cells #[.slice A2 S.dur.length c2, .slice A3 (Dk.wPend S.dur S.pend p x).length c3] 32))
    have hVs : (w1.alloc (.cells #[.slice A2 S.dur.length c2, .slice A3 (Dk.wPend S.dur S.pend p x).length c3] 32)).heap.size = w1.heap.size + 1 := by simp
    generalize w1.alloc (.cells #[.slice A2 S.dur.length c2, .slice A3 (Dk.wPend S.dur S.pend p x).length c3] 32) = V at BV bt VV hVs ⊢
    have q1 := HB.out.2.2.1.below BV
    have q2 := HB.out.2.2.2.1.below BV
    have DV := (HH.out.1.under HB.out.1).under BV
    have k80 := bt.cell 0
    have k81 := bt.cell 1
    have k51 := q1.cell 1
    have k52 := q1.cell 2
    have k60 := q2.cell 0
    have k61 := q2.cell 1
    have f6 := fun i => q2.frozen i
    simp at k80 k81 k51 k52 k60 k61
    have l1 := q1.lt
    have l2 := q2.lt
    have l8 := bt.lt
    have hsW := HB.out.2.2.2.2
    have ne1 : w1.heap.size ≠ w.heap.size + 1 + 1 := by omega
    have DX : ∀ X, Mod (fun k => k = w.heap.size + 1 + 1) V X → Dsk X F d S := fun X hm => DV.mod hm (fun k hk (e : k = w.heap.size + 1 + 1) => by have := hfb k hk; omega)
    have CX : ∀ X Y, Mod F X Y → Mod (fun k => k = w.heap.size + 1 + 1) V X → Y.cell? ⟨w1.heap.size, 0, none⟩ = some (.slice A2 S.dur.length c2) ∧ Y.cell? ⟨w1.heap.size, 1, none⟩ = some (.slice A3 (Dk.wPend S.dur S.pend p x).length c3) ∧ Y.cell? ⟨w.heap.size + 1, 1, none⟩ = some (.int .i64 p) ∧ Y.cell? ⟨w.heap.size + 1, 2, none⟩ = some (.string ⟨x.toArray⟩) := by
      intro X Y m3 mX
      have z1 := (q1.mod mX (fun (e : w.heap.size + 1 = w.heap.size + 1 + 1) => by omega)).mod m3 (fun hf => by have := hfb _ hf; omega)
      have z2 := (bt.mod mX (fun (e : w1.heap.size = w.heap.size + 1 + 1) => by omega)).mod m3 (fun hf => by have := hfb _ hf; omega)
      exact ⟨z2.cell 0, z2.cell 1, z1.cell 1, z1.cell 2⟩
    have RX : ∀ X Y, Mod F X Y → X = V.drew → Blk Y (w.heap.size + 1 + 1) 32 #[.slice none 0 0, .slice none 0 0] := by
      rintro X Y m3 rfl
      exact (show Blk V.drew _ _ _ from q2).mod m3 (fun hf => by have := hfb _ hf; omega)
    have MX0 : Mod (fun k => k = w.heap.size + 1 + 1) V V.drew := (Mod.refl _ V).drew
    have MX1 : Mod (fun k => k = w.heap.size + 1 + 1) V ((V.setCell ⟨w.heap.size + 1 + 1, 0, none⟩ (.slice A2 S.dur.length c2)).setCell ⟨w.heap.size + 1 + 1, 1, none⟩ (.slice A3 (Dk.wPend S.dur S.pend p x).length c3)).drew := ((mod_set V _ 0 _).trans (mod_set _ _ 1 _)).drew
    have kV0 := CX _ _ (Mod.refl F V.drew) MX0
    have kV1 := CX _ _ (Mod.refl F _) MX1
    have HQ := Lib.hid (And.intro BV (And.intro VV (And.intro hVs (And.intro q2 (And.intro hK (And.intro DX (And.intro CX (And.intro hs1 (And.intro hsW (And.intro RX (And.intro MX0 MX1)))))))))))
    clear hb1 V1 hv2 hK hVs DX CX hsW BV VV q1 q2 bt DV RX MX0 MX1
    go_region_held3 (fun w' => w'.cell? ⟨w1.heap.size, 0, none⟩ = some (.slice A2 S.dur.length c2) ∧ w'.cell? ⟨w1.heap.size, 1, none⟩ = some (.slice A3 (Dk.wPend S.dur S.pend p x).length c3) ∧ w'.cell? ⟨w.heap.size + 1, 1, none⟩ = some (.int .i64 p) ∧ w'.cell? ⟨w.heap.size + 1, 2, none⟩ = some (.string ⟨x.toArray⟩))
      (first
        | with_reducible exact kk
        | with_reducible exact kk2
        | with_reducible exact kV0
        | with_reducible exact kV1
        | (trace_state; fail))
      (first
        | (with_reducible refine (write_spec F d S p x V.drew (HQ.out.2.2.2.2.2.1 _ HQ.out.2.2.2.2.2.2.2.2.2.2.1) hR hP hxl).mono ?_
           rintro e w3 ⟨rfl, D3, m3⟩
           have kk := HQ.out.2.2.2.2.2.2.1 V.drew w3 m3 HQ.out.2.2.2.2.2.2.2.2.2.2.1
           have kk2 : ((w3.setCell ⟨w.heap.size + 1 + 1, 0, none⟩ (.slice A2 S.dur.length c2)).setCell ⟨w.heap.size + 1 + 1, 1, none⟩ (.slice A3 (Dk.wPend S.dur S.pend p x).length c3)).cell? ⟨w1.heap.size, 0, none⟩ = some (.slice A2 S.dur.length c2) ∧ ((w3.setCell ⟨w.heap.size + 1 + 1, 0, none⟩ (.slice A2 S.dur.length c2)).setCell ⟨w.heap.size + 1 + 1, 1, none⟩ (.slice A3 (Dk.wPend S.dur S.pend p x).length c3)).cell? ⟨w1.heap.size, 1, none⟩ = some (.slice A3 (Dk.wPend S.dur S.pend p x).length c3) ∧ ((w3.setCell ⟨w.heap.size + 1 + 1, 0, none⟩ (.slice A2 S.dur.length c2)).setCell ⟨w.heap.size + 1 + 1, 1, none⟩ (.slice A3 (Dk.wPend S.dur S.pend p x).length c3)).cell? ⟨w.heap.size + 1, 1, none⟩ = some (.int .i64 p) ∧ ((w3.setCell ⟨w.heap.size + 1 + 1, 0, none⟩ (.slice A2 S.dur.length c2)).setCell ⟨w.heap.size + 1 + 1, 1, none⟩ (.slice A3 (Dk.wPend S.dur S.pend p x).length c3)).cell? ⟨w.heap.size + 1, 2, none⟩ = some (.string ⟨x.toArray⟩) := ⟨(far2 _ _ _ _ (fun e => ne1 e.symm)).trans kk.1, (far2 _ _ _ _ (fun e => ne1 e.symm)).trans kk.2.1, (far2 _ _ _ _ (by omega)).trans kk.2.2.1, (far2 _ _ _ _ (by omega)).trans kk.2.2.2⟩
           have r2 := HQ.out.2.2.2.2.2.2.2.2.2.1 V.drew w3 m3 rfl
           have k60 := r2.cell 0
           have k61 := r2.cell 1
           have f6 := fun i => r2.frozen i
           have l6 := r2.lt
           simp at k60 k61))
    · go_wp2
      obtain ⟨BV, VV, hVs, q2, hK, DX, CX, hs1, hsW, RX, MX0, MX1⟩ := HQ.out
      have e0 := ((r2.set_ 0 (.slice A2 S.dur.length c2)).set_ 1 (.slice A3 (Dk.wPend S.dur S.pend p x).length c3)).cell 0
      have e1 := ((r2.set_ 0 (.slice A2 S.dur.length c2)).set_ 1 (.slice A3 (Dk.wPend S.dur S.pend p x).length c3)).cell 1
      simp at e0 e1
      refine bodyPost_ret (v := .tuple #[.agg #[.slice A2 S.dur.length c2, .slice A3 (Dk.wPend S.dur S.pend p x).length c3], .bool true]) (by simp [results, Try.results15, go_sem, e0, e1]) rfl ?_
      obtain ⟨w1d, w1p⟩ := write_dp S p x
      have hV3 := rv_put ((VV.below (Below.drew (Below.refl _ V))).mod m3 (hK G HH.out.2.2.1) (fun k hf hg => by
        rcases hg with hg | hg
        · exact HH.out.2.2.2.1 k hf hg
        · have := hfb k hf; omega)) r2
      have s3 := m3.size
      have hVd : V.drew.heap.size = V.heap.size := rfl
      have D4 := (D3.mod (mod_set w3 (w.heap.size + 1 + 1) 0 (.slice A2 S.dur.length c2)) (by
        rintro k (hk | hk) (hq : k = w.heap.size + 1 + 1)
        · have := hfb k hk; omega
        · omega)).mod (mod_set _ (w.heap.size + 1 + 1) 1 (.slice A3 (Dk.wPend S.dur S.pend p x).length c3)) (by
        rintro k (hk | hk) (hq : k = w.heap.size + 1 + 1)
        · have := hfb k hk; omega
        · omega)
      have hm : Mod F w ((w3.setCell ⟨w.heap.size + 1 + 1, 0, none⟩ (.slice A2 S.dur.length c2)).setCell ⟨w.heap.size + 1 + 1, 1, none⟩ (.slice A3 (Dk.wPend S.dur S.pend p x).length c3)) := ((((Mod.of_below (HB.out.1.trans (BV.mono HB.out.1.size)) F).trans ((Mod.refl F V).drew)).trans m3).trans' (mod_set w3 (w.heap.size + 1 + 1) 0 (.slice A2 S.dur.length c2)) (fun i hi (he : i = w.heap.size + 1 + 1) => by omega)).trans' (mod_set _ (w.heap.size + 1 + 1) 1 (.slice A3 (Dk.wPend S.dur S.pend p x).length c3)) (fun i hi (he : i = w.heap.size + 1 + 1) => by omega)
      have hzs : ((w3.setCell ⟨w.heap.size + 1 + 1, 0, none⟩ (.slice A2 S.dur.length c2)).setCell ⟨w.heap.size + 1 + 1, 1, none⟩ (.slice A3 (Dk.wPend S.dur S.pend p x).length c3)).heap.size = w3.heap.size := by simp [World.setCell]
      obtain ⟨F', G', t1, t2, t3, t4⟩ := do_fin (S' := Dk.write S p x) (X := V.drew) (Y := w3) (W := W) (w1 := w1) hfb HH.out.2.2.1 HH.out.2.2.2.1 HH.out.2.2.2.2.1 (by omega) (by omega) hs1 (by omega) s3 D4 (by rw [w1d, w1p]; exact hV3) hK hm
      exact ⟨_, F', G', rfl, t1, t2, t3, t4⟩
end Go.Proofs.Ytepdfeegklinfaa
