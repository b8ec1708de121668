/-
  The reference's disk: choice, Crash, Sync. Conditions: at most 2^40 pending writes, 4096 pages, choices within the model's bound.
-/
import Derived.Test.YtepdfeegklinfaaDkR
import Derived.Test.YtepdfeegklinfaaDkE
namespace Go.Proofs.Ytepdfeegklinfaa
set_option linter.unusedVariables false
open Go.RowKit Go.ChangeMaps Go.MapKept

theorem rchoice_spec (A : Option Addr) (cs : List Int) (c i : Nat) (w : World) (hR : Rd w A (ints cs)) (hn : A = none → cs.length = 0 ∧ c = 0) (hl : cs.length ≤ 9223372036854775807) (hi : i ≤ 9223372036854775807) :
    Calls Try.prog 47 #[.slice A cs.length c, .int .i64 i] w fun e w' => e = .returned (.int .i64 (Dk.choice cs i)) ∧ w' = w := by
  by_cases h0 : cs.length = 0
  · have hc : Dk.choice cs i = 0 := by unfold Dk.choice; rw [if_pos h0]
    rw [hc]
    have hb0 : ((cs.length : Int) == 0) = true := by simp [h0]
    go_enter Try.func47, Try.ntmps47
    go_wp2
    go_ret
    exact ⟨rfl, rfl⟩
  · have hb0 : ((cs.length : Int) == 0) = false := by rw [beq_eq_false_iff_ne]; omega
    have hlt : i % cs.length < cs.length := Nat.mod_lt _ (by omega)
    obtain ⟨b, off, rfl, hc⟩ := hR.int hlt
    have hm : (i : Int).tmod (cs.length : Int) = ((i % cs.length : Nat) : Int) := by
      rw [Int.tmod_eq_emod_of_nonneg (by omega)]; rfl
    have hch : Dk.choice cs i = cs[i % cs.length].tmod 3 % 3 := by
      have := choice_at (cs := cs) (k := 0) (Nat.zero_mod _) hlt
      rw [Nat.zero_add] at this
      rw [← this]
      unfold Dk.choice
      rw [Nat.mod_mod]
    rw [hch]
    obtain ⟨j, hj⟩ : ∃ j, i % cs.length = j := ⟨_, rfl⟩
    obtain ⟨x, hx⟩ : ∃ x, cs[i % cs.length] = x := ⟨_, rfl⟩
    rw [hx] at hc ⊢
    rw [hj] at hc hm hlt
    have hj0 : (0 : Int) ≤ (j : Int) := by omega
    have hj1 : (j : Int) < (cs.length : Int) := by omega
    have htm : 0 ≤ x.tmod 3 + 3 := by have := Int.lt_tmod_of_pos x (show (0 : Int) < 3 by decide); omega
    have htm2 : x.tmod 3 ≤ 2 := by have := Int.tmod_lt_of_pos x (show (0 : Int) < 3 by decide); omega
    clear hj hx hch
    go_enter Try.func47, Try.ntmps47
    go_wp2
    have e3 : (x.tmod 3 + 3) % 3 = x.tmod 3 % 3 := by omega
    go_ret
    rw [e3]
    exact ⟨rfl, rfl⟩

/-- a cell of a row is written -/
theorem put_row {w : World} {base : Nat} {e : TypeId} {n l c g : Nat} {xs : List Value} (h : w.ownsRow base e 1 (.slice (some ⟨g, 0, none⟩) l c) n xs) (p : Nat) (u : Value) :
    (w.setCell ⟨g, p, none⟩ u).ownsRow base e 1 (.slice (some ⟨g, 0, none⟩) l c) n (xs.set p u) := by
  obtain rfl := own_len h
  exact (h.stored p u).1
set_option maxRecDepth 20000 in
set_option maxHeartbeats 4000000 in
theorem rcrash_spec (v : Value) (dur : List Dk.Str) (pend : List Dk.Wr) (A : Option Addr) (cs : List Int) (c : Nat) (w : World) (h : RV w v dur pend) (hok : ∀ y ∈ pend, y.1 < dur.length)
    (hR : Rd w A (ints cs)) (hn : A = none → cs.length = 0 ∧ c = 0) (hl : cs.length ≤ 9223372036854775807) (hd : dur.length ≤ 4096) (hP : pend.length ≤ 1099511627776) :
    Calls Try.prog 35 #[v, .slice A cs.length c] w (RvQ v (Dk.crashD cs 0 pend dur) [] w) := by
  obtain ⟨A0, c0, A1, c1, rfl, r0, r1, n0, n1⟩ := h
  have bb1 : (0 + dur.length) * 16 ≤ 140737488355328 := by omega
  have bb2 : 0 + dur.length ≤ maxLen := by unfold maxLen; omega
  have hone := strs_one dur
  have hsl := strs_length dur
  have HN := Lib.hid (And.intro hsl (And.intro hone (And.intro n0 (And.intro n1 (And.intro r0 (And.intro r1 (And.intro hR (And.intro hn hok))))))))
  clear hsl hone n0 n1 r0 r1 hR hn hok
  obtain ⟨i0, hi, hz0, hz1, hz2⟩ := info_parts info_strc
  go_enter Try.func35, Try.ntmps35
  go_wp2_with (at_builtin; go_must (refine appendN _ 29 9 (.string ⟨#[]⟩) 16 (w.heap.size + 2) Try.underlying29 info_strc rfl rfl _ _ rfl _ 0 [] A0 dur.length c0 (strs dur) (by have q : World.ownsRow (((w.alloc (.cells #[.slice A0 dur.length c0, .slice A1 pend.length c1] 32)).alloc (.cells #[.slice none 0 0, .slice none 0 0] 32)).alloc (.cells #[] 9)) (w.heap.size + 2) 9 1 (.slice (some ⟨((w.alloc (.cells #[.slice A0 dur.length c0, .slice A1 pend.length c1] 32)).alloc (.cells #[.slice none 0 0, .slice none 0 0] 32)).heap.size, 0, none⟩) 0 0) 0 [] := World.ownsRow_lit _ #[] 0 (by simp) (by decide) rfl; rw [World.size_alloc, World.size_alloc] at q; exact q) rfl rfl HN.out.2.2.1 (((HN.out.2.2.2.2.1.alloc _).alloc _).alloc _) HN.out.1 HN.out.2.1 bb1 bb2 (by simp) ?_))
  intro v' w1 own1 g1
  obtain ⟨A', c', rfl, _, _⟩ := own_form own1
  obtain ⟨W2, hW2⟩ : ∃ W2, (w.alloc (.cells #[.slice A0 dur.length c0, .slice A1 pend.length c1] 32)).alloc (.cells #[.slice none 0 0, .slice none 0 0] 32) = W2 := ⟨_, rfl⟩
  rw [hW2] at g1
  have B2 : Below w.heap.size w W2 := by rw [← hW2]; exact ((Below.refl _ w).alloc (Nat.le_refl _) _).alloc (by simp) _
  have s2 : W2.heap.size = w.heap.size + 2 := by rw [← hW2]; simp
  have bk0 : Blk W2 w.heap.size 32 #[.slice A0 dur.length c0, .slice A1 pend.length c1] := by rw [← hW2]; exact (Blk.new w _ _).alloc _
  have bk1 : Blk W2 (w.heap.size + 1) 32 #[.slice none 0 0, .slice none 0 0] := by rw [← hW2]; simpa using Blk.new (w.alloc (.cells #[.slice A0 dur.length c0, .slice A1 pend.length c1] 32)) 32 #[.slice none 0 0, .slice none 0 0]
  clear hW2
  have B21 : Below W2.heap.size W2 w1 := ((Below.refl _ W2).alloc (Nat.le_refl _) _).grown g1 (by simp) (fun k hk => by injection hk with hk; simp at hk; omega)
  have bl0 := bk0.below B21
  have bl1 := bk1.below B21
  have hs1 := B21.size
  have HB := Lib.hid (And.intro (B2.trans (B21.mono (by omega))) (And.intro bl0 (And.intro bl1 (And.intro own1 s2))))
  clear bk0 bk1 B21 B2 g1 bl0 bl1 own1 s2
  go_wp2
  have hgB : ∀ g, A' = some ⟨g, 0, none⟩ → g < w1.heap.size := fun g hg => (HB.out.2.2.2.1.lt g (by rw [hg]; rfl)).2
  go_loopw [6] (fun i wr => ∃ k : Nat, k ≤ pend.length ∧ i = .int .i64 k ∧ Blk wr w.heap.size 32 #[.slice A0 dur.length c0, .slice A1 pend.length c1] ∧ Blk wr (w.heap.size + 1) 32 #[.slice none 0 0, .slice none 0 0] ∧ Blk wr w1.heap.size 32 #[.slice A' dur.length c', .slice none 0 0] ∧ wr.ownsRow (w.heap.size + 2) 9 1 (.slice A' dur.length c') dur.length (strs (Dk.crashD cs 0 (pend.take k) dur)) ∧ Below w.heap.size w wr) (fun i _ => pend.length - (intOf i).toNat)
  case atStart => exact ⟨0, Nat.zero_le _, rfl, HB.out.2.1.alloc _, HB.out.2.2.1.alloc _, Blk.new _ _ _, by rw [List.take_zero]; exact HB.out.2.2.2.1.alloc _, HB.out.1.alloc HB.out.1.size _⟩
  case round =>
    obtain ⟨k, hk, rfl, h0, h1, h2, own, hbe⟩ := hrel
    have l0 := h0.lt
    have l1 := h1.lt
    have l2 := h2.lt
    have k00 := h0.cell 0
    have k01 := h0.cell 1
    have k20 := h2.cell 0
    simp at k00 k01 k20
    by_cases hlt : k < pend.length
    · obtain ⟨b, off, rfl, hbl, hcc⟩ := rd_elem (fun x : Dk.Wr => [.int .i64 x.1, .string ⟨x.2.toArray⟩]) 2 (fun _ => rfl) (HN.out.2.2.2.2.2.1.below hbe) hlt (by omega)
      have hc0 := hcc 0 _ rfl
      have hc1 := hcc 1 _ rfl
      have hok := HN.out.2.2.2.2.2.2.2.2 _ (List.getElem_mem hlt)
      have hst : Dk.crashD cs 0 (pend.take (k + 1)) dur = Dk.put3 (Dk.choice cs k) (Dk.crashD cs 0 (pend.take k) dur) pend[k] := by
        rw [List.take_succ_eq_append_getElem hlt, Dk.crashD_snoc]
        simp only [List.length_take, Nat.zero_add]
        rw [Nat.min_eq_left (by omega)]
      obtain ⟨⟨p, x⟩, hpx⟩ : ∃ q, pend[k] = q := ⟨_, rfl⟩
      try simp only at hc0 hc1
      rw [hpx] at hc0 hc1 hok hst
      try simp only [Nat.add_zero] at hc0 hc1 hok hst
      have hi0 : (0 : Int) ≤ (k : Int) := by omega
      have hi1 : (k : Int) < (pend.length : Int) := by omega
      obtain ⟨g, rfl, hgl⟩ := own_some own (by omega)
      have hgw := hgB g rfl
      obtain ⟨old, hold⟩ := row_cell own (j := p) hok
      have hfz := row_frozen own p
      have hp0 : (0 : Int) ≤ (p : Int) := by omega
      have hp1 : (p : Int) < (dur.length : Int) := by omega
      have hRw := HN.out.2.2.2.2.2.2.1.below hbe
      have HS := Lib.hid (And.intro h0 (And.intro h1 (And.intro h2 (And.intro own hbe))))
      clear h0 h1 h2 own hbe hpx hcc
      go_wp2_with fail
      refine (rchoice_spec A cs c k wr hRw HN.out.2.2.2.2.2.2.2.1 hl (by omega)).mono ?_
      rintro e w' ⟨rfl, rfl⟩
      obtain ⟨wr, rfl⟩ : ∃ wr : World, wr = w' := ⟨_, rfl⟩
      obtain ⟨ch, hch⟩ : ∃ ch, Dk.choice cs k = ch := ⟨_, rfl⟩
      rw [hch] at hst ⊢
      have HT := Lib.hid hst
      clear hst hch hRw
      by_cases e1 : ch = 1
      · subst e1
        go_wp2_with fail
        go_still_tail 15, (by kernel_rfl)
        change wpList _ _ _ _ _ wr.drew
        go_wp2_with fail
        go_roundw
        case rel =>
          obtain ⟨h0, h1, h2, own, hbe⟩ := HS.out
          have hgW := (own.lt g (by rfl)).1
          have hm := mod_set wr g p (.string ⟨(x).toArray⟩)
          have q0 := h0.mod hm (fun (e : w.heap.size = g) => by omega)
          have q1 := h1.mod hm (fun (e : w.heap.size + 1 = g) => by omega)
          have q2 := h2.mod hm (fun (e : w1.heap.size = g) => by omega)
          refine ⟨k + 1, by omega, by go_num, q0, q1, q2, ?_, (hbe.setCell (p := ⟨g, p, none⟩) (by show w.heap.size ≤ g; omega) _).drew⟩
          have := (put_row own p (.string ⟨(x).toArray⟩)).drew
          rw [HT.out]
          simpa [Dk.put3, strs_set, Dk.unread] using this
        case measure => simp [intOf]; omega
      by_cases e2 : ch = 2
      · subst e2
        go_wp2_with fail
        go_still_tail 9, (by kernel_rfl)
        change wpList _ _ _ _ _ wr.drew
        go_wp2_with fail
        go_roundw
        case rel =>
          obtain ⟨h0, h1, h2, own, hbe⟩ := HS.out
          have hgW := (own.lt g (by rfl)).1
          have hm := mod_set wr g p (.string ⟨(Dk.unread).toArray⟩)
          have q0 := h0.mod hm (fun (e : w.heap.size = g) => by omega)
          have q1 := h1.mod hm (fun (e : w.heap.size + 1 = g) => by omega)
          have q2 := h2.mod hm (fun (e : w1.heap.size = g) => by omega)
          refine ⟨k + 1, by omega, by go_num, q0, q1, q2, ?_, (hbe.setCell (p := ⟨g, p, none⟩) (by show w.heap.size ≤ g; omega) _).drew⟩
          have := (put_row own p (.string ⟨(Dk.unread).toArray⟩)).drew
          rw [HT.out]
          simpa [Dk.put3, strs_set, Dk.unread] using this
        case measure => simp [intOf]; omega
      · have t1 : (ch == 1) = false := by rw [beq_eq_false_iff_ne]; exact e1
        have t2 : (ch == 2) = false := by rw [beq_eq_false_iff_ne]; exact e2
        go_wp2_with fail
        go_roundw
        case rel =>
          obtain ⟨h0, h1, h2, own, hbe⟩ := HS.out
          refine ⟨k + 1, by omega, by go_num, h0, h1, h2, ?_, hbe⟩
          rw [HT.out]
          simpa [Dk.put3, e1, e2] using own
        case measure => simp [intOf]; omega
    · obtain rfl : k = pend.length := by omega
      rw [List.take_length] at own
      have HS := Lib.hid (And.intro h0 (And.intro h1 (And.intro h2 (And.intro own hbe))))
      have k21 := h2.cell 1
      have f1 := fun i => h1.frozen i
      have k10 := h1.cell 0
      have k11 := h1.cell 1
      simp at k21 k10 k11
      clear h0 h1 h2 own hbe
      go_wp2_with fail
      obtain ⟨h0, h1, h2, own, hbe⟩ := HS.out
      have e0 := ((h1.set_ 0 (.slice A' dur.length c')).set_ 1 (.slice none 0 0)).cell 0
      have e1 := ((h1.set_ 0 (.slice A' dur.length c')).set_ 1 (.slice none 0 0)).cell 1
      simp at e0 e1
      refine bodyPost_ret (v := .agg #[.slice A' dur.length c', .slice none 0 0]) (by simp [results, Try.results35, go_sem, e0, e1]) rfl ?_
      have hbz : Below w.heap.size w ((wr.setCell ⟨w.heap.size + 1, 0, none⟩ (.slice A' dur.length c')).setCell ⟨w.heap.size + 1, 1, none⟩ (.slice none 0 0)) := (hbe.setCell (p := ⟨w.heap.size + 1, 0, none⟩) (by simp) _).setCell (p := ⟨w.heap.size + 1, 1, none⟩) (by simp) _
      have hlen : (Dk.crashD cs 0 pend dur).length = dur.length := Dk.crashD_length _ _ _ _
      have hown := mod_owns_ne (d := w.heap.size + 1) (i := 1) (u := .slice none 0 0) (mod_owns_ne (d := w.heap.size + 1) (i := 0) (u := .slice A' dur.length c') own (fun hk => by have := (own.lt _ hk).1; omega)) (fun hk => by have := (own.lt _ hk).1; omega)
      have hnil : A' = none → (Dk.crashD cs 0 pend dur).length = 0 ∧ c' = 0 := by
        intro hA
        subst hA
        rcases own.2 with ⟨q1, q2⟩ | ⟨_, _, _, hv, _⟩
        · injection q1 with _ _ q3
          exact ⟨by omega, q3⟩
        · injection hv with hv; cases hv
      refine ⟨_, rfl, ⟨A', c', none, 0, by rw [hlen]; rfl, Rd.of_own hown, Rd.nil _ _, hnil, (fun _ => ⟨rfl, rfl⟩)⟩, hbz, fun G hG => InG.mk (fun p hp => ?_) (fun p hp => by cases hp)⟩
      subst hp
      have q1 := own.lt p.block rfl
      exact .inr ⟨by omega, by simpa [World.setCell] using q1.2⟩
end Go.Proofs.Ytepdfeegklinfaa
