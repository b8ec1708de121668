/-
  MerkleStays: the walk. Conditions: the arguments are small.
-/
import Derived.Test.YtiklfjehhdbhfaaMkR
import Derived.Test.YtiklfjehhdbhfaaStep2
namespace Go.Proofs.Ytiklfjehhdbhfaa
set_option linter.unusedVariables false
open Go.RowKit

/-- what the proofs of a leaf and of the first leaves do -/
structure StayOk (L K : List Mk.Str) (m i N : Nat) (P Q Q' C C' : List Mk.Str) (F R x : Mk.Str) : Prop where
  incP : mInc (L.take m) i = (P, 0)
  incQ : mInc L i = (Q, 0)
  incR : mInc K i = (Q', 0)
  conC : mCon L m = (C, 0)
  conD : mCon K m = (C', 0)
  lenQ : Q'.length = Q.length
  lenC : C'.length = C.length
  first : mRoot (L.take m) = F
  root : mRoot L = R
  elem : ∃ h : i < L.length, L[i] = x
  y1 : incB x i m P F = true
  y2 : extB m N F R C = true
  y3 : incB x i N Q R = true
  leP : P.length ≤ N
  leQ : Q.length ≤ N
  leC : C.length ≤ N
theorem stay_ok {L K : List Mk.Str} (h : Mk.AllD L) (hk : Mk.AllD K) (m i N : Nat) (hL : L.length = N) (hK : K.length = N) (hN : N ≤ 4096) (hm : 1 ≤ m) (hmN : m ≤ N) (hi : i < m) : ∃ P Q Q' C C' F R x, StayOk L K m i N P Q Q' C C' F R x := by
  have ht : (L.take m).length = m := by rw [List.length_take]; omega
  have d1 := Mk.incl_length m (L.take m) i ht
  have d2 := Mk.incl_length N L i hL
  have d3 := Mk.incl_length N K i hK
  have e1 := Mk.cons_length N L m true hL hm hmN
  have e2 := Mk.cons_length N K m true hK hm hmN
  have l1 := Mk.depth_le i m
  have l2 := Mk.depth_le i N
  have l3 := cdepth_le m N true (by omega)
  have iP := incB_ok (h.take m) (by omega) i (by omega)
  have iQ := incB_ok h (by omega) i (by omega)
  have iC := extB_ok h (by omega) m hm (by omega)
  obtain ⟨x, hx⟩ : ∃ x, L[i]'(by omega) = x := ⟨_, rfl⟩
  rw [List.getElem_take, hx, ht] at iP
  rw [hx, hL] at iQ
  rw [hL] at iC
  exact ⟨_, _, _, _, _, _, _, _, mInc_ok (h.take m) (by omega) i (by omega), mInc_ok h (by omega) i (by omega), mInc_ok hk (by omega) i (by omega), mCon_ok h (by omega) m hm (by omega), mCon_ok hk (by omega) m hm (by omega), d3.trans d2.symm, e2.trans e1.symm,
    mRoot_ok (h.take m) (by omega), mRoot_ok h (by omega), ⟨by omega, hx⟩, iP, iC, iQ, by omega, by omega, by omega⟩
set_option maxRecDepth 20000 in
set_option maxHeartbeats 4000000 in
theorem merkleStays_walk (A : Option Addr) (D : List Mk.Str) (c : Nat) (B : Option Addr) (O : List Mk.Str) (cO : Nat) (which old : Nat) (w : World) (hwh : which < 256) (hw : old < 256) (hR : Rd w A (strs D)) (hp : weight D ≤ 1073741824) (hRO : Rd w B (strs O)) (hpO : weight O ≤ 1073741824) (hcO : O.length ≤ cO) (hmO : cO ≤ maxLen) :
    Calls Try.prog 8 #[.slice A D.length c, .slice B O.length cO, .int .u8 which, .int .u8 old] w fun e w' => e = .returned (.bool true) ∧ Below w.heap.size w w' := by
  have hLl : D.length ≤ 1073741824 := by unfold weight at hp; omega
  have hLO : O.length ≤ 1073741824 := by unfold weight at hpO; omega
  have kF := fun W hb => mfew_spec A D c W (hR.below hb) (by omega)
  have kG := fun W hb => mfew_spec B O cO W (hRO.below hb) (by omega)
  have kl := fun W hb => leaves_spec A D c W (hR.below hb) hp
  have km := fun W hb => leaves_spec B (O.take D.length) cO W (rd_take (hRO.below hb) D.length) (by unfold weight at hpO ⊢; have := weight_take_le O D.length; rw [List.length_take]; omega)
  obtain ⟨fb, hfb⟩ : ∃ fb, fewB D = fb := ⟨_, rfl⟩
  obtain ⟨fo, hfo⟩ : ∃ fo, fewB O = fo := ⟨_, rfl⟩
  rw [hfb] at kF
  rw [hfo] at kG
  have HX := Lib.hid (And.intro hR (And.intro hp (And.intro hRO hpO)))
  clear hR hp hRO hpO hfb hfo
  go_enter Try.func8, Try.ntmps8
  go_wp2_with fail
  refine (awake_mk _).mono ?_
  rintro e w1 ⟨rfl, b1⟩
  go_wp2_with fail
  refine (kF _ b1).mono ?_
  rintro e w' ⟨rfl, rfl⟩
  cases fb with
  | false =>
    go_wp2
    go_ret
    exact ⟨rfl, b1⟩
  | true =>
  go_wp2_with fail
  refine (kG _ b1).mono ?_
  rintro e w' ⟨rfl, rfl⟩
  cases fo with
  | false =>
    go_wp2
    go_ret
    exact ⟨rfl, b1⟩
  | true =>
  by_cases h40 : D.length > 40
  · have g1 : decide ((D.length : Int) > 40) = true := by simp; omega
    go_wp2
    go_ret
    exact ⟨rfl, b1⟩
  have g1 : decide ((D.length : Int) > 40) = false := by simp; omega
  by_cases hlt : O.length < D.length
  · have g2 : decide ((O.length : Int) < (D.length : Int)) = true := by simp; omega
    have g3 : decide (O.length < D.length) = true := by simp; omega
    go_wp2
    go_ret
    exact ⟨rfl, b1⟩
  have g2 : decide ((O.length : Int) < (D.length : Int)) = false := by simp; omega
  have g3 : decide (O.length < D.length) = false := by simp; omega
  by_cases h0 : D.length = 0
  · have g4 : ((D.length : Int) == 0) = true := beq_iff_eq.2 (by omega)
    go_wp2
    go_ret
    exact ⟨rfl, b1⟩
  have g4 : ((D.length : Int) == 0) = false := beq_eq_false_iff_ne.2 (by omega)
  have hD : Mk.AllD (D.map Mk.leaf) := leaf_dig D
  have hE : Mk.AllD ((O.take D.length).map Mk.leaf) := leaf_dig _
  have hl : (D.map Mk.leaf).length = D.length := List.length_map ..
  have hk : ((O.take D.length).map Mk.leaf).length = D.length := by rw [List.length_map, List.length_take]; omega
  have ht : (O.take D.length).length = D.length := by rw [List.length_take]; omega
  simp only [ht] at km
  generalize D.map Mk.leaf = L at kl hD hl
  generalize (O.take D.length).map Mk.leaf = K at km hE hk
  have n0 : (0 : Int) ≤ (D.length : Int) := by omega
  have n1 : (D.length : Int) ≤ (cO : Int) := by omega
  have y0 := b1.drew
  go_wp2_with fail
  refine wp_region_noPanic ?_
  refine wp_region_held_drew (S := (fun _ => True)) (by kernel_rfl) ?_ (fun hH0 => ?_)
  · (trivial)
  refine wpAnyH_take (i := 0) (oi := ⟨some 50, _, _, _, _, _⟩) (v := ?_) rfl (by kernel_rfl) (by kernel_rfl) (by kernel_rfl) (fun _ _ _ h => h) (Or.inl ⟨by rfl, ?_⟩) hH0 ?_
  rotate_left 1
  · intro w hSw; (try dsimp only at hSw); go_simp; with_reducible rfl
  try simp only [Act.put, List.setIfInBounds_toArray, List.set_cons_zero, List.set_cons_succ]
  refine wpAnyH_take (i := 2) (oi := ⟨some 52, _, _, _, _, _⟩) (v := ?_) rfl (by kernel_rfl) (by kernel_rfl) (by kernel_rfl) (fun _ _ _ h => h) (Or.inl ⟨by rfl, ?_⟩) hH0 ?_
  rotate_left 1
  · intro w hSw; (try dsimp only at hSw); go_simp; with_reducible rfl
  try simp only [Act.put, List.setIfInBounds_toArray, List.set_cons_zero, List.set_cons_succ]
  refine wpAnyH_take (i := 3) (oi := ⟨some 53, _, _, _, _, _⟩) (v := ?_) rfl (by kernel_rfl) (by kernel_rfl) (by kernel_rfl) (fun _ _ _ h => h) (Or.inl ⟨by rfl, ?_⟩) hH0 ?_
  rotate_left 1
  · intro w hSw; (try dsimp only at hSw); go_simp; with_reducible rfl
  try simp only [Act.put, List.setIfInBounds_toArray, List.set_cons_zero, List.set_cons_succ]
  refine wpAnyH_take (i := 4) (oi := ⟨some 54, _, _, _, _, _⟩) (v := ?_) rfl (by kernel_rfl) (by kernel_rfl) (by kernel_rfl) (fun _ _ _ h => h) (Or.inl ⟨by rfl, ?_⟩) hH0 ?_
  rotate_left 1
  · intro w hSw; (try dsimp only at hSw); go_simp; with_reducible rfl
  try simp only [Act.put, List.setIfInBounds_toArray, List.set_cons_zero, List.set_cons_succ]
  refine wpAnyH_take (i := 5) (oi := ⟨some 55, _, _, _, _, _⟩) (v := ?_) rfl (by kernel_rfl) (by kernel_rfl) (by kernel_rfl) (fun _ _ _ h => h) (Or.inl ⟨by rfl, ?_⟩) hH0 ?_
  rotate_left 1
  · intro w hSw; (try dsimp only at hSw); go_simp; with_reducible rfl
  try simp only [Act.put, List.setIfInBounds_toArray, List.set_cons_zero, List.set_cons_succ]
  refine wpAnyH_ready (rs := [1]) (by kernel_rfl) (by simp) ?_
  refine AllReadyH.cons (o := ⟨some 51, _, _, _, _, _⟩) rfl (fun K hK => ?_) AllReadyH.nil
  go_simp; (first
        | (with_reducible refine (kl _ y0).mono ?_
           rintro e w2 ⟨A2, c2, rfl, hc2, hm2, t2⟩
           have y1 := y0.trans (t2.below.mono y0.size))
        | (with_reducible refine (km _ y1).mono ?_
           rintro e w3 ⟨A3, c3, rfl, hc3, hm3, t3⟩
           have y2 := y1.trans (t3.below.mono y1.size))
        | fail); go_wp2_with fail
  refine hK.out _ _ ?_ (fun hH1 => ?_)
  · (trivial)
  clear hK K hH0
  try simp only [Act.put, List.setIfInBounds_toArray, List.set_cons_zero, List.set_cons_succ]
  refine wpAnyH_ready (rs := [6]) (by kernel_rfl) (by simp) ?_
  refine AllReadyH.cons (o := ⟨some 56, _, _, _, _, _⟩) rfl (fun K hK => ?_) AllReadyH.nil
  go_simp; (first
        | (with_reducible refine (kl _ y0).mono ?_
           rintro e w2 ⟨A2, c2, rfl, hc2, hm2, t2⟩
           have y1 := y0.trans (t2.below.mono y0.size))
        | (with_reducible refine (km _ y1).mono ?_
           rintro e w3 ⟨A3, c3, rfl, hc3, hm3, t3⟩
           have y2 := y1.trans (t3.below.mono y1.size))
        | fail); go_wp2_with fail
  refine hK.out _ _ ?_ (fun hH2 => ?_)
  · (trivial)
  clear hK K hH1
  try simp only [Act.put, List.setIfInBounds_toArray, List.set_cons_zero, List.set_cons_succ]
  refine wpAnyH_take (i := 7) (oi := ⟨some 9, _, _, _, _, _⟩) (v := ?_) rfl (by kernel_rfl) (by kernel_rfl) (by kernel_rfl) (fun _ _ _ h => h) (Or.inl ⟨by rfl, ?_⟩) hH2 ?_
  rotate_left 1
  · intro w hSw; (try dsimp only at hSw); go_simp; with_reducible rfl
  try simp only [Act.put, List.setIfInBounds_toArray, List.set_cons_zero, List.set_cons_succ]
  refine wpAnyH_take (i := 8) (oi := ⟨some 10, _, _, _, _, _⟩) (v := ?_) rfl (by kernel_rfl) (by kernel_rfl) (by kernel_rfl) (fun _ _ _ h => h) (Or.inl ⟨by rfl, ?_⟩) hH2 ?_
  rotate_left 1
  · intro w hSw; (try dsimp only at hSw); go_simp; with_reducible rfl
  try simp only [Act.put, List.setIfInBounds_toArray, List.set_cons_zero, List.set_cons_succ]
  refine wpAnyH_done (by kernel_rfl) ?_ _
  all_goals (refine NoPanic.normal ?_)
  have rl : ∀ W, Below w3.heap.size w3 W → Rd W A2 (strs L) := fun W hb => (Rd.of_own t2.own).below (t3.below.trans (hb.mono t3.below.size))
  have rk : ∀ W, Below w3.heap.size w3 W → Rd W A3 (strs K) := fun W hb => (Rd.of_own t3.own).below hb
  obtain ⟨N, hN⟩ : ∃ N, D.length = N := ⟨_, rfl⟩
  rw [hN] at hl hk
  obtain ⟨m', hm'⟩ : ∃ m', old % N = m' := ⟨_, rfl⟩
  have hmlt : m' < N := by rw [← hm']; exact Nat.mod_lt _ (by omega)
  obtain ⟨m, hm⟩ : ∃ m, m' + 1 = m := ⟨_, rfl⟩
  obtain ⟨i, hi⟩ : ∃ i, which % m = i := ⟨_, rfl⟩
  have him : i < m := by rw [← hi]; exact Nat.mod_lt _ (by omega)
  have hN40 : N ≤ 40 := by omega
  obtain ⟨P, Q, Q', C, C', F, R, x, hok⟩ := stay_ok hD hE m i N hl hk (by omega) (by omega) (by omega) him
  obtain ⟨g, rfl, hgl⟩ := mk_some t2.own (by omega)
  have hmod : (old : Int).tmod (N : Int) = (m' : Int) := by rw [tmod_nat, hm']
  have hmod2 : (old : Int) % (N : Int) = (m' : Int) := by rw [← hm']; rfl
  have hmod3 : (which : Int).tmod (m : Int) = (i : Int) := by rw [tmod_nat, hi]
  have hmod4 : (which : Int) % (m : Int) = (i : Int) := by rw [← hi]; rfl
  have hadd : (1 : Int) + (m' : Int) = (m : Int) := by omega
  have hNz : ((N : Int) == 0) = false := beq_eq_false_iff_ne.2 (by omega)
  have hNz2 : ¬ (N : Int) = 0 := by omega
  have hmz : ((m : Int) == 0) = false := beq_eq_false_iff_ne.2 (by omega)
  have hmz2 : ¬ (m : Int) = 0 := by omega
  rw [hl] at hc2 t2
  rw [hk] at hc3 t3
  rw [hN] at ⊢
  have i0 : (0 : Int) ≤ (i : Int) := by omega
  have i1 : (i : Int) < (N : Int) := by omega
  have p0 : (0 : Int) ≤ (m : Int) := by omega
  have p1 : (m : Int) ≤ (c2 : Int) := by omega
  have hmN : m ≤ N := by omega
  have hcell : ∀ W, Below w3.heap.size w3 W → W.cell? ⟨g, i, none⟩ = some (.string ⟨x.toArray⟩) := fun W hb => by
    obtain ⟨hx1, hx2⟩ := hok.elem
    obtain ⟨b', off', hA', h'⟩ := (rl W hb).str (k := i) hx1
    cases hA'
    rw [Nat.zero_add, hx2] at h'
    exact h'
  have htk : (L.take m).length = m := by rw [List.length_take]; omega
  have kP : ∀ W, Below w3.heap.size w3 W → Calls Try.prog 11 #[.slice (some ⟨g, 0, none⟩) m c2, .int .i64 i] W (PrP (P, 0) W) := fun W hb => by
    have := inc_mk (some ⟨g, 0, none⟩) (L.take m) c2 (i : Int) W (rd_take (rl W hb) m) (by omega) (by omega) hm2
    rw [hok.incP, htk] at this
    exact this
  have kQ : ∀ W, Below w3.heap.size w3 W → Calls Try.prog 11 #[.slice (some ⟨g, 0, none⟩) N c2, .int .i64 i] W (PrP (Q, 0) W) := fun W hb => by
    have := inc_mk (some ⟨g, 0, none⟩) L c2 (i : Int) W (rl W hb) (by omega) (by omega) hm2
    rw [hok.incQ, hl] at this
    exact this
  have kK : ∀ W, Below w3.heap.size w3 W → Calls Try.prog 11 #[.slice A3 N c3, .int .i64 i] W (PrP (Q', 0) W) := fun W hb => by
    have := inc_mk A3 K c3 (i : Int) W (rk W hb) (by omega) (by omega) hm3
    rw [hok.incR, hk] at this
    exact this
  have kC : ∀ W, Below w3.heap.size w3 W → Calls Try.prog 13 #[.slice (some ⟨g, 0, none⟩) N c2, .int .i64 m] W (PrP (C, 0) W) := fun W hb => by
    have := con_mk (some ⟨g, 0, none⟩) L c2 (m : Int) W (rl W hb) (by omega) (by omega) hm2
    rw [hok.conC, hl] at this
    exact this
  have kD : ∀ W, Below w3.heap.size w3 W → Calls Try.prog 13 #[.slice A3 N c3, .int .i64 m] W (PrP (C', 0) W) := fun W hb => by
    have := con_mk A3 K c3 (m : Int) W (rk W hb) (by omega) (by omega) hm3
    rw [hok.conD, hk] at this
    exact this
  have kR : ∀ W, Below w3.heap.size w3 W → Calls Try.prog 19 #[.slice (some ⟨g, 0, none⟩) N c2] W fun e w' => e = .returned (.string ⟨R.toArray⟩) ∧ Below W.heap.size W w' := fun W hb => by
    have := root_mk (some ⟨g, 0, none⟩) L c2 W (rl W hb) (by omega) (by omega) hm2
    rw [hok.root, hl] at this
    exact this
  have kS : ∀ W, Below w3.heap.size w3 W → Calls Try.prog 19 #[.slice (some ⟨g, 0, none⟩) m c2] W fun e w' => e = .returned (.string ⟨F.toArray⟩) ∧ Below W.heap.size W w' := fun W hb => by
    have := root_mk (some ⟨g, 0, none⟩) (L.take m) c2 W (rd_take (rl W hb) m) (by omega) (by omega) hm2
    rw [hok.first, htk] at this
    exact this
  have HC := Lib.hid (And.intro hcell (And.intro hok (And.intro y2 y2.size)))
  have lQ := hok.lenQ
  have lC := hok.lenC
  have leP := hok.leP
  have leQ := hok.leQ
  have leC := hok.leC
  obtain ⟨dq, hdq⟩ : ∃ dq, Q.length = dq := ⟨_, rfl⟩
  obtain ⟨dc, hdc⟩ : ∃ dc, C.length = dc := ⟨_, rfl⟩
  obtain ⟨dp, hdp⟩ : ∃ dp, P.length = dp := ⟨_, rfl⟩
  rw [hdq] at lQ leQ
  rw [hdc] at lC leC
  rw [hdp] at leP
  have HD := Lib.hid (And.intro hi (And.intro hm (And.intro hm' (And.intro hN (And.intro hl (And.intro hk (And.intro htk (And.intro lQ (And.intro lC (And.intro hdq (And.intro hdc hdp)))))))))))
  clear hi hm hm' hN hl hk htk lQ lC hdq hdc hdp hok hcell rl rk t2 t3 kl km kF kG ht hD hE y0 y1 y2 b1 h0 h40 hlt
  go_wp2_with fail
  refine (kP _ (Below.refl _ _)).mono ?_
  rintro e w4 ⟨v4, rfl, t4⟩
  obtain ⟨A4, c4, rfl, hc4, hm4⟩ := own_form t4.own
  simp only [HD.out.2.2.2.2.2.2.2.2.2.2.2] at hc4 t4 ⊢
  have z4 := t4.below
  go_wp2_with fail
  refine (kQ _ z4).mono ?_
  rintro e w5 ⟨v5, rfl, t5⟩
  obtain ⟨A5, c5, rfl, hc5, hm5⟩ := own_form t5.own
  simp only [HD.out.2.2.2.2.2.2.2.2.2.1] at hc5 t5 ⊢
  have z5 := z4.trans (t5.below.mono z4.size)
  go_wp2_with fail
  refine (kK _ z5).mono ?_
  rintro e w6 ⟨v6, rfl, t6⟩
  obtain ⟨A6, c6, rfl, hc6, hm6⟩ := own_form t6.own
  simp only [HD.out.2.2.2.2.2.2.2.1] at hc6 t6 ⊢
  have z6 := z5.trans (t6.below.mono z5.size)
  go_wp2_with fail
  refine (kC _ z6).mono ?_
  rintro e w7 ⟨v7, rfl, t7⟩
  obtain ⟨A7, c7, rfl, hc7, hm7⟩ := own_form t7.own
  simp only [HD.out.2.2.2.2.2.2.2.2.2.2.1] at hc7 t7 ⊢
  have z7 := z6.trans (t7.below.mono z6.size)
  go_wp2_with fail
  refine (kD _ z7).mono ?_
  rintro e w8 ⟨v8, rfl, t8⟩
  obtain ⟨A8, c8, rfl, hc8, hm8⟩ := own_form t8.own
  simp only [HD.out.2.2.2.2.2.2.2.2.1] at hc8 t8 ⊢
  have z8 := z7.trans (t8.below.mono z7.size)
  have rP : ∀ W, Below w8.heap.size w8 W → Rd W A4 (strs P) := fun W hb => (Rd.of_own t4.own).below (t5.below.trans ((t6.below.trans ((t7.below.trans ((t8.below.trans (hb.mono t8.below.size)).mono t7.below.size)).mono t6.below.size)).mono t5.below.size))
  have rQ : ∀ W, Below w8.heap.size w8 W → Rd W A5 (strs Q) := fun W hb => (Rd.of_own t5.own).below (t6.below.trans ((t7.below.trans ((t8.below.trans (hb.mono t8.below.size)).mono t7.below.size)).mono t6.below.size))
  have rC : ∀ W, Below w8.heap.size w8 W → Rd W A7 (strs C) := fun W hb => (Rd.of_own t7.own).below (t8.below.trans (hb.mono t8.below.size))
  have kI : ∀ W, Below w8.heap.size w8 W → Calls Try.prog 28 #[.string ⟨x.toArray⟩, .int .i64 i, .int .i64 m, .slice A4 dp c4, .string ⟨F.toArray⟩] W fun e w' => e = .returned (.bool true) ∧ Below W.heap.size W w' := fun W hb => by
    have := included_spec x i m A4 P c4 F W (rP W hb) (by rw [HD.out.2.2.2.2.2.2.2.2.2.2.2]; exact hc4) hm4
    rw [HC.out.2.1.y1, HD.out.2.2.2.2.2.2.2.2.2.2.2] at this
    exact this
  have kJ : ∀ W, Below w8.heap.size w8 W → Calls Try.prog 28 #[.string ⟨x.toArray⟩, .int .i64 i, .int .i64 N, .slice A5 dq c5, .string ⟨R.toArray⟩] W fun e w' => e = .returned (.bool true) ∧ Below W.heap.size W w' := fun W hb => by
    have := included_spec x i N A5 Q c5 R W (rQ W hb) (by rw [HD.out.2.2.2.2.2.2.2.2.2.1]; exact hc5) hm5
    rw [HC.out.2.1.y3, HD.out.2.2.2.2.2.2.2.2.2.1] at this
    exact this
  have kE : ∀ W, Below w8.heap.size w8 W → Calls Try.prog 30 #[.int .i64 m, .int .i64 N, .string ⟨F.toArray⟩, .string ⟨R.toArray⟩, .slice A7 dc c7] W fun e w' => e = .returned (.bool true) ∧ Below W.heap.size W w' := fun W hb => by
    have := extends_spec m N F R A7 C c7 W (rC W hb) (by rw [HD.out.2.2.2.2.2.2.2.2.2.2.1]; exact hc7) hm7
    rw [HC.out.2.1.y2, HD.out.2.2.2.2.2.2.2.2.2.2.1] at this
    exact this
  have q1 : ((dq : Int) != (dq : Int)) = false := by simp
  have q2 : ((dc : Int) != (dc : Int)) = false := by simp
  have z0 := z8.drew
  have u0 := (Below.refl w8.heap.size w8).drew
  clear rP rQ rC t4 t5 t6 t7 t8 kP kQ kK kC kD hmod hmod2 hmod3 hmod4 z4 z5 z6 z7
  go_wp2_with fail
  refine wp_region_noPanic ?_
  refine wp_region_held_drew (S := (fun w' => w'.cell? ⟨g, i, none⟩ = some (.string ⟨x.toArray⟩))) (by kernel_rfl) ?_ (fun hH0 => ?_)
  · (first
      | exact HC.out.1 _ z0
      | exact HC.out.1 _ z1
      | exact HC.out.1 _ z2
      | exact HC.out.1 _ z3
      | exact HC.out.1 _ z4
      | exact HC.out.1 _ z5
      | exact HC.out.1 _ z6
      | exact HC.out.1 _ z7
      | fail)
  refine wpAnyH_take (i := 0) (oi := ⟨some 131, _, _, _, _, _⟩) (v := ?_) rfl (by kernel_rfl) (by kernel_rfl) (by kernel_rfl) (fun _ _ _ h => h) (Or.inl ⟨by rfl, ?_⟩) hH0 ?_
  rotate_left 1
  · intro w hSw; (try dsimp only at hSw); go_simp; with_reducible rfl
  try simp only [Act.put, List.setIfInBounds_toArray, List.set_cons_zero, List.set_cons_succ]
  refine wpAnyH_take (i := 1) (oi := ⟨some 132, _, _, _, _, _⟩) (v := ?_) rfl (by kernel_rfl) (by kernel_rfl) (by kernel_rfl) (fun _ _ _ h => h) (Or.inl ⟨by rfl, ?_⟩) hH0 ?_
  rotate_left 1
  · intro w hSw; (try dsimp only at hSw); go_simp; with_reducible rfl
  try simp only [Act.put, List.setIfInBounds_toArray, List.set_cons_zero, List.set_cons_succ]
  refine wpAnyH_take (i := 2) (oi := ⟨some 133, _, _, _, _, _⟩) (v := ?_) rfl (by kernel_rfl) (by kernel_rfl) (by kernel_rfl) (fun _ _ _ h => h) (Or.inl ⟨by rfl, ?_⟩) hH0 ?_
  rotate_left 1
  · intro w hSw; (try dsimp only at hSw); go_simp; with_reducible rfl
  try simp only [Act.put, List.setIfInBounds_toArray, List.set_cons_zero, List.set_cons_succ]
  refine wpAnyH_take (i := 3) (oi := ⟨some 134, _, _, _, _, _⟩) (v := ?_) rfl (by kernel_rfl) (by kernel_rfl) (by kernel_rfl) (fun _ _ _ h => h) (Or.inl ⟨by rfl, ?_⟩) hH0 ?_
  rotate_left 1
  · intro w hSw; (try dsimp only at hSw); go_simp; with_reducible rfl
  try simp only [Act.put, List.setIfInBounds_toArray, List.set_cons_zero, List.set_cons_succ]
  refine wpAnyH_take (i := 4) (oi := ⟨some 135, _, _, _, _, _⟩) (v := ?_) rfl (by kernel_rfl) (by kernel_rfl) (by kernel_rfl) (fun _ _ _ h => h) (Or.inl ⟨by rfl, ?_⟩) hH0 ?_
  rotate_left 1
  · intro w hSw; (try dsimp only at hSw); go_simp; with_reducible rfl
  try simp only [Act.put, List.setIfInBounds_toArray, List.set_cons_zero, List.set_cons_succ]
  refine wpAnyH_take (i := 5) (oi := ⟨some 136, _, _, _, _, _⟩) (v := ?_) rfl (by kernel_rfl) (by kernel_rfl) (by kernel_rfl) (fun _ _ _ h => h) (Or.inl ⟨by rfl, ?_⟩) hH0 ?_
  rotate_left 1
  · intro w hSw; (try dsimp only at hSw); go_simp; with_reducible rfl
  try simp only [Act.put, List.setIfInBounds_toArray, List.set_cons_zero, List.set_cons_succ]
  refine wpAnyH_take (i := 6) (oi := ⟨some 137, _, _, _, _, _⟩) (v := ?_) rfl (by kernel_rfl) (by kernel_rfl) (by kernel_rfl) (fun _ _ _ h => h) (Or.inl ⟨by rfl, ?_⟩) hH0 ?_
  rotate_left 1
  · intro w hSw; (try dsimp only at hSw); go_simp; with_reducible rfl
  try simp only [Act.put, List.setIfInBounds_toArray, List.set_cons_zero, List.set_cons_succ]
  refine wpAnyH_take (i := 7) (oi := ⟨some 138, _, _, _, _, _⟩) (v := ?_) rfl (by kernel_rfl) (by kernel_rfl) (by kernel_rfl) (fun _ _ _ h => h) (Or.inl ⟨by rfl, ?_⟩) hH0 ?_
  rotate_left 1
  · intro w hSw; (try dsimp only at hSw); go_simp; with_reducible rfl
  try simp only [Act.put, List.setIfInBounds_toArray, List.set_cons_zero, List.set_cons_succ]
  refine wpAnyH_take (i := 8) (oi := ⟨some 139, _, _, _, _, _⟩) (v := ?_) rfl (by kernel_rfl) (by kernel_rfl) (by kernel_rfl) (fun _ _ _ h => h) (Or.inl ⟨by rfl, ?_⟩) hH0 ?_
  rotate_left 1
  · intro w hSw; (try dsimp only at hSw); go_simp; with_reducible rfl
  try simp only [Act.put, List.setIfInBounds_toArray, List.set_cons_zero, List.set_cons_succ]
  refine wpAnyH_take (i := 9) (oi := ⟨some 140, _, _, _, _, _⟩) (v := ?_) rfl (by kernel_rfl) (by kernel_rfl) (by kernel_rfl) (fun _ _ _ h => h) (Or.inl ⟨by rfl, ?_⟩) hH0 ?_
  rotate_left 1
  · intro w hSw; (try dsimp only at hSw); go_simp; with_reducible rfl
  try simp only [Act.put, List.setIfInBounds_toArray, List.set_cons_zero, List.set_cons_succ]
  refine wpAnyH_ready (rs := [10]) (by kernel_rfl) (by simp) ?_
  refine AllReadyH.cons (o := ⟨some 141, _, _, _, _, _⟩) rfl (fun K hK => ?_) AllReadyH.nil
  go_simp; (first
        | (with_reducible refine (kS _ z0).mono ?_
           rintro e v1 ⟨rfl, b1⟩
           have z1 := z0.trans (b1.mono z0.size)
           have u1 := u0.trans (b1.mono u0.size))
        | (with_reducible refine (kI _ u1).mono ?_
           rintro e v2 ⟨rfl, b2⟩
           have z2 := z1.trans (b2.mono z1.size)
           have u2 := u1.trans (b2.mono u1.size))
        | (with_reducible refine (kS _ z2).mono ?_
           rintro e v3 ⟨rfl, b3⟩
           have z3 := z2.trans (b3.mono z2.size)
           have u3 := u2.trans (b3.mono u2.size))
        | (with_reducible refine (kR _ z3).mono ?_
           rintro e v4 ⟨rfl, b4⟩
           have z4 := z3.trans (b4.mono z3.size)
           have u4 := u3.trans (b4.mono u3.size))
        | (with_reducible refine (kE _ u4).mono ?_
           rintro e v5 ⟨rfl, b5⟩
           have z5 := z4.trans (b5.mono z4.size)
           have u5 := u4.trans (b5.mono u4.size))
        | (with_reducible refine (kR _ z5).mono ?_
           rintro e v6 ⟨rfl, b6⟩
           have z6 := z5.trans (b6.mono z5.size)
           have u6 := u5.trans (b6.mono u5.size))
        | (with_reducible refine (kJ _ u6).mono ?_
           rintro e v7 ⟨rfl, b7⟩
           have z7 := z6.trans (b7.mono z6.size))
        | fail); go_wp2_with fail
  refine hK.out _ _ ?_ (fun hH1 => ?_)
  · (first
      | exact HC.out.1 _ z0
      | exact HC.out.1 _ z1
      | exact HC.out.1 _ z2
      | exact HC.out.1 _ z3
      | exact HC.out.1 _ z4
      | exact HC.out.1 _ z5
      | exact HC.out.1 _ z6
      | exact HC.out.1 _ z7
      | fail)
  clear hK K hH0
  try simp only [Act.put, List.setIfInBounds_toArray, List.set_cons_zero, List.set_cons_succ]
  refine wpAnyH_ready (rs := [11]) (by kernel_rfl) (by simp) ?_
  refine AllReadyH.cons (o := ⟨some 142, _, _, _, _, _⟩) rfl (fun K hK => ?_) AllReadyH.nil
  go_simp; (first
        | (with_reducible refine (kS _ z0).mono ?_
           rintro e v1 ⟨rfl, b1⟩
           have z1 := z0.trans (b1.mono z0.size)
           have u1 := u0.trans (b1.mono u0.size))
        | (with_reducible refine (kI _ u1).mono ?_
           rintro e v2 ⟨rfl, b2⟩
           have z2 := z1.trans (b2.mono z1.size)
           have u2 := u1.trans (b2.mono u1.size))
        | (with_reducible refine (kS _ z2).mono ?_
           rintro e v3 ⟨rfl, b3⟩
           have z3 := z2.trans (b3.mono z2.size)
           have u3 := u2.trans (b3.mono u2.size))
        | (with_reducible refine (kR _ z3).mono ?_
           rintro e v4 ⟨rfl, b4⟩
           have z4 := z3.trans (b4.mono z3.size)
           have u4 := u3.trans (b4.mono u3.size))
        | (with_reducible refine (kE _ u4).mono ?_
           rintro e v5 ⟨rfl, b5⟩
           have z5 := z4.trans (b5.mono z4.size)
           have u5 := u4.trans (b5.mono u4.size))
        | (with_reducible refine (kR _ z5).mono ?_
           rintro e v6 ⟨rfl, b6⟩
           have z6 := z5.trans (b6.mono z5.size)
           have u6 := u5.trans (b6.mono u5.size))
        | (with_reducible refine (kJ _ u6).mono ?_
           rintro e v7 ⟨rfl, b7⟩
           have z7 := z6.trans (b7.mono z6.size))
        | fail); go_wp2_with fail
  refine hK.out _ _ ?_ (fun hH2 => ?_)
  · (first
      | exact HC.out.1 _ z0
      | exact HC.out.1 _ z1
      | exact HC.out.1 _ z2
      | exact HC.out.1 _ z3
      | exact HC.out.1 _ z4
      | exact HC.out.1 _ z5
      | exact HC.out.1 _ z6
      | exact HC.out.1 _ z7
      | fail)
  clear hK K hH1
  try simp only [Act.put, List.setIfInBounds_toArray, List.set_cons_zero, List.set_cons_succ]
  refine wpAnyH_take (i := 12) (oi := ⟨some 143, _, _, _, _, _⟩) (v := ?_) rfl (by kernel_rfl) (by kernel_rfl) (by kernel_rfl) (fun _ _ _ h => h) (Or.inl ⟨by rfl, ?_⟩) hH2 ?_
  rotate_left 1
  · intro w hSw; (try dsimp only at hSw); go_simp; with_reducible rfl
  try simp only [Act.put, List.setIfInBounds_toArray, List.set_cons_zero, List.set_cons_succ]
  refine wpAnyH_take (i := 13) (oi := ⟨some 144, _, _, _, _, _⟩) (v := ?_) rfl (by kernel_rfl) (by kernel_rfl) (by kernel_rfl) (fun _ _ _ h => h) (Or.inl ⟨by rfl, ?_⟩) hH2 ?_
  rotate_left 1
  · intro w hSw; (try dsimp only at hSw); go_simp; with_reducible rfl
  try simp only [Act.put, List.setIfInBounds_toArray, List.set_cons_zero, List.set_cons_succ]
  refine wpAnyH_take (i := 14) (oi := ⟨some 145, _, _, _, _, _⟩) (v := ?_) rfl (by kernel_rfl) (by kernel_rfl) (by kernel_rfl) (fun _ _ _ h => h) (Or.inl ⟨by rfl, ?_⟩) hH2 ?_
  rotate_left 1
  · intro w hSw; (try dsimp only at hSw); go_simp; with_reducible rfl
  try simp only [Act.put, List.setIfInBounds_toArray, List.set_cons_zero, List.set_cons_succ]
  refine wpAnyH_take (i := 15) (oi := ⟨some 146, _, _, _, _, _⟩) (v := ?_) rfl (by kernel_rfl) (by kernel_rfl) (by kernel_rfl) (fun _ _ _ h => h) (Or.inl ⟨by rfl, ?_⟩) hH2 ?_
  rotate_left 1
  · intro w hSw; (try dsimp only at hSw); go_simp; with_reducible rfl
  try simp only [Act.put, List.setIfInBounds_toArray, List.set_cons_zero, List.set_cons_succ]
  refine wpAnyH_take (i := 16) (oi := ⟨some 147, _, _, _, _, _⟩) (v := ?_) rfl (by kernel_rfl) (by kernel_rfl) (by kernel_rfl) (fun _ _ _ h => h) (Or.inl ⟨by rfl, ?_⟩) hH2 ?_
  rotate_left 1
  · intro w hSw; (try dsimp only at hSw); go_simp; with_reducible rfl
  try simp only [Act.put, List.setIfInBounds_toArray, List.set_cons_zero, List.set_cons_succ]
  refine wpAnyH_take (i := 17) (oi := ⟨some 148, _, _, _, _, _⟩) (v := ?_) rfl (by kernel_rfl) (by kernel_rfl) (by kernel_rfl) (fun _ _ _ h => h) (Or.inl ⟨by rfl, ?_⟩) hH2 ?_
  rotate_left 1
  · intro w hSw; (try dsimp only at hSw); go_simp; with_reducible rfl
  try simp only [Act.put, List.setIfInBounds_toArray, List.set_cons_zero, List.set_cons_succ]
  refine wpAnyH_take (i := 18) (oi := ⟨some 149, _, _, _, _, _⟩) (v := ?_) rfl (by kernel_rfl) (by kernel_rfl) (by kernel_rfl) (fun _ _ _ h => h) (Or.inl ⟨by rfl, ?_⟩) hH2 ?_
  rotate_left 1
  · intro w hSw; (try dsimp only at hSw); go_simp; with_reducible rfl
  try simp only [Act.put, List.setIfInBounds_toArray, List.set_cons_zero, List.set_cons_succ]
  refine wpAnyH_take (i := 20) (oi := ⟨some 151, _, _, _, _, _⟩) (v := ?_) rfl (by kernel_rfl) (by kernel_rfl) (by kernel_rfl) (fun _ _ _ h => h) (Or.inl ⟨by rfl, ?_⟩) hH2 ?_
  rotate_left 1
  · intro w hSw; (try dsimp only at hSw); go_simp; with_reducible rfl
  try simp only [Act.put, List.setIfInBounds_toArray, List.set_cons_zero, List.set_cons_succ]
  refine wpAnyH_take (i := 22) (oi := ⟨some 153, _, _, _, _, _⟩) (v := ?_) rfl (by kernel_rfl) (by kernel_rfl) (by kernel_rfl) (fun _ _ _ h => h) (Or.inl ⟨by rfl, ?_⟩) hH2 ?_
  rotate_left 1
  · intro w hSw; (try dsimp only at hSw); go_simp; with_reducible rfl
  try simp only [Act.put, List.setIfInBounds_toArray, List.set_cons_zero, List.set_cons_succ]
  refine wpAnyH_ready (rs := [19]) (by kernel_rfl) (by simp) ?_
  refine AllReadyH.cons (o := ⟨some 150, _, _, _, _, _⟩) rfl (fun K hK => ?_) AllReadyH.nil
  go_simp; (first
        | (with_reducible refine (kS _ z0).mono ?_
           rintro e v1 ⟨rfl, b1⟩
           have z1 := z0.trans (b1.mono z0.size)
           have u1 := u0.trans (b1.mono u0.size))
        | (with_reducible refine (kI _ u1).mono ?_
           rintro e v2 ⟨rfl, b2⟩
           have z2 := z1.trans (b2.mono z1.size)
           have u2 := u1.trans (b2.mono u1.size))
        | (with_reducible refine (kS _ z2).mono ?_
           rintro e v3 ⟨rfl, b3⟩
           have z3 := z2.trans (b3.mono z2.size)
           have u3 := u2.trans (b3.mono u2.size))
        | (with_reducible refine (kR _ z3).mono ?_
           rintro e v4 ⟨rfl, b4⟩
           have z4 := z3.trans (b4.mono z3.size)
           have u4 := u3.trans (b4.mono u3.size))
        | (with_reducible refine (kE _ u4).mono ?_
           rintro e v5 ⟨rfl, b5⟩
           have z5 := z4.trans (b5.mono z4.size)
           have u5 := u4.trans (b5.mono u4.size))
        | (with_reducible refine (kR _ z5).mono ?_
           rintro e v6 ⟨rfl, b6⟩
           have z6 := z5.trans (b6.mono z5.size)
           have u6 := u5.trans (b6.mono u5.size))
        | (with_reducible refine (kJ _ u6).mono ?_
           rintro e v7 ⟨rfl, b7⟩
           have z7 := z6.trans (b7.mono z6.size))
        | fail); go_wp2_with fail
  refine hK.out _ _ ?_ (fun hH3 => ?_)
  · (first
      | exact HC.out.1 _ z0
      | exact HC.out.1 _ z1
      | exact HC.out.1 _ z2
      | exact HC.out.1 _ z3
      | exact HC.out.1 _ z4
      | exact HC.out.1 _ z5
      | exact HC.out.1 _ z6
      | exact HC.out.1 _ z7
      | fail)
  clear hK K hH2
  try simp only [Act.put, List.setIfInBounds_toArray, List.set_cons_zero, List.set_cons_succ]
  refine wpAnyH_ready (rs := [21]) (by kernel_rfl) (by simp) ?_
  refine AllReadyH.cons (o := ⟨some 152, _, _, _, _, _⟩) rfl (fun K hK => ?_) AllReadyH.nil
  go_simp; (first
        | (with_reducible refine (kS _ z0).mono ?_
           rintro e v1 ⟨rfl, b1⟩
           have z1 := z0.trans (b1.mono z0.size)
           have u1 := u0.trans (b1.mono u0.size))
        | (with_reducible refine (kI _ u1).mono ?_
           rintro e v2 ⟨rfl, b2⟩
           have z2 := z1.trans (b2.mono z1.size)
           have u2 := u1.trans (b2.mono u1.size))
        | (with_reducible refine (kS _ z2).mono ?_
           rintro e v3 ⟨rfl, b3⟩
           have z3 := z2.trans (b3.mono z2.size)
           have u3 := u2.trans (b3.mono u2.size))
        | (with_reducible refine (kR _ z3).mono ?_
           rintro e v4 ⟨rfl, b4⟩
           have z4 := z3.trans (b4.mono z3.size)
           have u4 := u3.trans (b4.mono u3.size))
        | (with_reducible refine (kE _ u4).mono ?_
           rintro e v5 ⟨rfl, b5⟩
           have z5 := z4.trans (b5.mono z4.size)
           have u5 := u4.trans (b5.mono u4.size))
        | (with_reducible refine (kR _ z5).mono ?_
           rintro e v6 ⟨rfl, b6⟩
           have z6 := z5.trans (b6.mono z5.size)
           have u6 := u5.trans (b6.mono u5.size))
        | (with_reducible refine (kJ _ u6).mono ?_
           rintro e v7 ⟨rfl, b7⟩
           have z7 := z6.trans (b7.mono z6.size))
        | fail); go_wp2_with fail
  refine hK.out _ _ ?_ (fun hH4 => ?_)
  · (first
      | exact HC.out.1 _ z0
      | exact HC.out.1 _ z1
      | exact HC.out.1 _ z2
      | exact HC.out.1 _ z3
      | exact HC.out.1 _ z4
      | exact HC.out.1 _ z5
      | exact HC.out.1 _ z6
      | exact HC.out.1 _ z7
      | fail)
  clear hK K hH3
  try simp only [Act.put, List.setIfInBounds_toArray, List.set_cons_zero, List.set_cons_succ]
  refine wpAnyH_ready (rs := [23]) (by kernel_rfl) (by simp) ?_
  refine AllReadyH.cons (o := ⟨some 154, _, _, _, _, _⟩) rfl (fun K hK => ?_) AllReadyH.nil
  go_simp; (first
        | (with_reducible refine (kS _ z0).mono ?_
           rintro e v1 ⟨rfl, b1⟩
           have z1 := z0.trans (b1.mono z0.size)
           have u1 := u0.trans (b1.mono u0.size))
        | (with_reducible refine (kI _ u1).mono ?_
           rintro e v2 ⟨rfl, b2⟩
           have z2 := z1.trans (b2.mono z1.size)
           have u2 := u1.trans (b2.mono u1.size))
        | (with_reducible refine (kS _ z2).mono ?_
           rintro e v3 ⟨rfl, b3⟩
           have z3 := z2.trans (b3.mono z2.size)
           have u3 := u2.trans (b3.mono u2.size))
        | (with_reducible refine (kR _ z3).mono ?_
           rintro e v4 ⟨rfl, b4⟩
           have z4 := z3.trans (b4.mono z3.size)
           have u4 := u3.trans (b4.mono u3.size))
        | (with_reducible refine (kE _ u4).mono ?_
           rintro e v5 ⟨rfl, b5⟩
           have z5 := z4.trans (b5.mono z4.size)
           have u5 := u4.trans (b5.mono u4.size))
        | (with_reducible refine (kR _ z5).mono ?_
           rintro e v6 ⟨rfl, b6⟩
           have z6 := z5.trans (b6.mono z5.size)
           have u6 := u5.trans (b6.mono u5.size))
        | (with_reducible refine (kJ _ u6).mono ?_
           rintro e v7 ⟨rfl, b7⟩
           have z7 := z6.trans (b7.mono z6.size))
        | fail); go_wp2_with fail
  refine hK.out _ _ ?_ (fun hH5 => ?_)
  · (first
      | exact HC.out.1 _ z0
      | exact HC.out.1 _ z1
      | exact HC.out.1 _ z2
      | exact HC.out.1 _ z3
      | exact HC.out.1 _ z4
      | exact HC.out.1 _ z5
      | exact HC.out.1 _ z6
      | exact HC.out.1 _ z7
      | fail)
  clear hK K hH4
  try simp only [Act.put, List.setIfInBounds_toArray, List.set_cons_zero, List.set_cons_succ]
  refine wpAnyH_take (i := 24) (oi := ⟨some 155, _, _, _, _, _⟩) (v := ?_) rfl (by kernel_rfl) (by kernel_rfl) (by kernel_rfl) (fun _ _ _ h => h) (Or.inl ⟨by rfl, ?_⟩) hH5 ?_
  rotate_left 1
  · intro w hSw; (try dsimp only at hSw); go_simp; with_reducible rfl
  try simp only [Act.put, List.setIfInBounds_toArray, List.set_cons_zero, List.set_cons_succ]
  refine wpAnyH_take (i := 25) (oi := ⟨some 156, _, _, _, _, _⟩) (v := ?_) rfl (by kernel_rfl) (by kernel_rfl) (by kernel_rfl) (fun _ _ _ h => h) (Or.inl ⟨by rfl, ?_⟩) hH5 ?_
  rotate_left 1
  · intro w hSw; (try dsimp only at hSw); go_simp; with_reducible rfl
  try simp only [Act.put, List.setIfInBounds_toArray, List.set_cons_zero, List.set_cons_succ]
  refine wpAnyH_take (i := 26) (oi := ⟨some 157, _, _, _, _, _⟩) (v := ?_) rfl (by kernel_rfl) (by kernel_rfl) (by kernel_rfl) (fun _ _ _ h => h) (Or.inl ⟨by rfl, ?_⟩) hH5 ?_
  rotate_left 1
  · intro w hSw; (try dsimp only at hSw); go_simp; with_reducible rfl
  try simp only [Act.put, List.setIfInBounds_toArray, List.set_cons_zero, List.set_cons_succ]
  refine wpAnyH_take (i := 27) (oi := ⟨some 158, _, _, _, _, _⟩) (v := ?_) rfl (by kernel_rfl) (by kernel_rfl) (by kernel_rfl) (fun _ _ _ h => h) (Or.inl ⟨by rfl, ?_⟩) hH5 ?_
  rotate_left 1
  · intro w hSw; (try dsimp only at hSw); go_simp; with_reducible rfl
  try simp only [Act.put, List.setIfInBounds_toArray, List.set_cons_zero, List.set_cons_succ]
  refine wpAnyH_take (i := 28) (oi := ⟨some 159, _, _, _, _, _⟩) (v := ?_) rfl (by kernel_rfl) (by kernel_rfl) (by kernel_rfl) (fun _ _ _ h => h) (Or.inl ⟨by rfl, ?_⟩) hH5 ?_
  rotate_left 1
  · intro w hSw; (try dsimp only at hSw); go_simp; with_reducible rfl
  try simp only [Act.put, List.setIfInBounds_toArray, List.set_cons_zero, List.set_cons_succ]
  refine wpAnyH_take (i := 29) (oi := ⟨some 160, _, _, _, _, _⟩) (v := ?_) rfl (by kernel_rfl) (by kernel_rfl) (by kernel_rfl) (fun _ _ _ h => h) (Or.inl ⟨by rfl, ?_⟩) hH5 ?_
  rotate_left 1
  · intro w hSw; (try dsimp only at hSw); go_simp; with_reducible rfl
  try simp only [Act.put, List.setIfInBounds_toArray, List.set_cons_zero, List.set_cons_succ]
  refine wpAnyH_take (i := 30) (oi := ⟨some 161, _, _, _, _, _⟩) (v := ?_) rfl (by kernel_rfl) (by kernel_rfl) (by kernel_rfl) (fun _ _ _ h => h) (Or.inl ⟨by rfl, ?_⟩) hH5 ?_
  rotate_left 1
  · intro w hSw; (try dsimp only at hSw); go_simp; with_reducible rfl
  try simp only [Act.put, List.setIfInBounds_toArray, List.set_cons_zero, List.set_cons_succ]
  refine wpAnyH_take (i := 31) (oi := ⟨some 162, _, _, _, _, _⟩) (v := ?_) rfl (by kernel_rfl) (by kernel_rfl) (by kernel_rfl) (fun _ _ _ h => h) (Or.inl ⟨by rfl, ?_⟩) hH5 ?_
  rotate_left 1
  · intro w hSw; (try dsimp only at hSw); go_simp; with_reducible rfl
  try simp only [Act.put, List.setIfInBounds_toArray, List.set_cons_zero, List.set_cons_succ]
  refine wpAnyH_take (i := 32) (oi := ⟨some 163, _, _, _, _, _⟩) (v := ?_) rfl (by kernel_rfl) (by kernel_rfl) (by kernel_rfl) (fun _ _ _ h => h) (Or.inl ⟨by rfl, ?_⟩) hH5 ?_
  rotate_left 1
  · intro w hSw; (try dsimp only at hSw); go_simp; with_reducible rfl
  try simp only [Act.put, List.setIfInBounds_toArray, List.set_cons_zero, List.set_cons_succ]
  refine wpAnyH_take (i := 33) (oi := ⟨some 164, _, _, _, _, _⟩) (v := ?_) rfl (by kernel_rfl) (by kernel_rfl) (by kernel_rfl) (fun _ _ _ h => h) (Or.inl ⟨by rfl, ?_⟩) hH5 ?_
  rotate_left 1
  · intro w hSw; (try dsimp only at hSw); go_simp; with_reducible rfl
  try simp only [Act.put, List.setIfInBounds_toArray, List.set_cons_zero, List.set_cons_succ]
  refine wpAnyH_take (i := 34) (oi := ⟨some 165, _, _, _, _, _⟩) (v := ?_) rfl (by kernel_rfl) (by kernel_rfl) (by kernel_rfl) (fun _ _ _ h => h) (Or.inl ⟨by rfl, ?_⟩) hH5 ?_
  rotate_left 1
  · intro w hSw; (try dsimp only at hSw); go_simp; with_reducible rfl
  try simp only [Act.put, List.setIfInBounds_toArray, List.set_cons_zero, List.set_cons_succ]
  refine wpAnyH_ready (rs := [35]) (by kernel_rfl) (by simp) ?_
  refine AllReadyH.cons (o := ⟨some 166, _, _, _, _, _⟩) rfl (fun K hK => ?_) AllReadyH.nil
  go_simp; (first
        | (with_reducible refine (kS _ z0).mono ?_
           rintro e v1 ⟨rfl, b1⟩
           have z1 := z0.trans (b1.mono z0.size)
           have u1 := u0.trans (b1.mono u0.size))
        | (with_reducible refine (kI _ u1).mono ?_
           rintro e v2 ⟨rfl, b2⟩
           have z2 := z1.trans (b2.mono z1.size)
           have u2 := u1.trans (b2.mono u1.size))
        | (with_reducible refine (kS _ z2).mono ?_
           rintro e v3 ⟨rfl, b3⟩
           have z3 := z2.trans (b3.mono z2.size)
           have u3 := u2.trans (b3.mono u2.size))
        | (with_reducible refine (kR _ z3).mono ?_
           rintro e v4 ⟨rfl, b4⟩
           have z4 := z3.trans (b4.mono z3.size)
           have u4 := u3.trans (b4.mono u3.size))
        | (with_reducible refine (kE _ u4).mono ?_
           rintro e v5 ⟨rfl, b5⟩
           have z5 := z4.trans (b5.mono z4.size)
           have u5 := u4.trans (b5.mono u4.size))
        | (with_reducible refine (kR _ z5).mono ?_
           rintro e v6 ⟨rfl, b6⟩
           have z6 := z5.trans (b6.mono z5.size)
           have u6 := u5.trans (b6.mono u5.size))
        | (with_reducible refine (kJ _ u6).mono ?_
           rintro e v7 ⟨rfl, b7⟩
           have z7 := z6.trans (b7.mono z6.size))
        | fail); go_wp2_with fail
  refine hK.out _ _ ?_ (fun hH6 => ?_)
  · (first
      | exact HC.out.1 _ z0
      | exact HC.out.1 _ z1
      | exact HC.out.1 _ z2
      | exact HC.out.1 _ z3
      | exact HC.out.1 _ z4
      | exact HC.out.1 _ z5
      | exact HC.out.1 _ z6
      | exact HC.out.1 _ z7
      | fail)
  clear hK K hH5
  try simp only [Act.put, List.setIfInBounds_toArray, List.set_cons_zero, List.set_cons_succ]
  refine wpAnyH_ready (rs := [36]) (by kernel_rfl) (by simp) ?_
  refine AllReadyH.cons (o := ⟨some 167, _, _, _, _, _⟩) rfl (fun K hK => ?_) AllReadyH.nil
  go_simp; (first
        | (with_reducible refine (kS _ z0).mono ?_
           rintro e v1 ⟨rfl, b1⟩
           have z1 := z0.trans (b1.mono z0.size)
           have u1 := u0.trans (b1.mono u0.size))
        | (with_reducible refine (kI _ u1).mono ?_
           rintro e v2 ⟨rfl, b2⟩
           have z2 := z1.trans (b2.mono z1.size)
           have u2 := u1.trans (b2.mono u1.size))
        | (with_reducible refine (kS _ z2).mono ?_
           rintro e v3 ⟨rfl, b3⟩
           have z3 := z2.trans (b3.mono z2.size)
           have u3 := u2.trans (b3.mono u2.size))
        | (with_reducible refine (kR _ z3).mono ?_
           rintro e v4 ⟨rfl, b4⟩
           have z4 := z3.trans (b4.mono z3.size)
           have u4 := u3.trans (b4.mono u3.size))
        | (with_reducible refine (kE _ u4).mono ?_
           rintro e v5 ⟨rfl, b5⟩
           have z5 := z4.trans (b5.mono z4.size)
           have u5 := u4.trans (b5.mono u4.size))
        | (with_reducible refine (kR _ z5).mono ?_
           rintro e v6 ⟨rfl, b6⟩
           have z6 := z5.trans (b6.mono z5.size)
           have u6 := u5.trans (b6.mono u5.size))
        | (with_reducible refine (kJ _ u6).mono ?_
           rintro e v7 ⟨rfl, b7⟩
           have z7 := z6.trans (b7.mono z6.size))
        | fail); go_wp2_with fail
  refine hK.out _ _ ?_ (fun hH7 => ?_)
  · (first
      | exact HC.out.1 _ z0
      | exact HC.out.1 _ z1
      | exact HC.out.1 _ z2
      | exact HC.out.1 _ z3
      | exact HC.out.1 _ z4
      | exact HC.out.1 _ z5
      | exact HC.out.1 _ z6
      | exact HC.out.1 _ z7
      | fail)
  clear hK K hH6
  try simp only [Act.put, List.setIfInBounds_toArray, List.set_cons_zero, List.set_cons_succ]
  refine wpAnyH_take (i := 37) (oi := ⟨some 168, _, _, _, _, _⟩) (v := ?_) rfl (by kernel_rfl) (by kernel_rfl) (by kernel_rfl) (fun _ _ _ h => h) (Or.inl ⟨by rfl, ?_⟩) hH7 ?_
  rotate_left 1
  · intro w hSw; (try dsimp only at hSw); go_simp; with_reducible rfl
  try simp only [Act.put, List.setIfInBounds_toArray, List.set_cons_zero, List.set_cons_succ]
  refine wpAnyH_take (i := 38) (oi := ⟨some 8, _, _, _, _, _⟩) (v := ?_) rfl (by kernel_rfl) (by kernel_rfl) (by kernel_rfl) (fun _ _ _ h => h) (Or.inl ⟨by rfl, ?_⟩) hH7 ?_
  rotate_left 1
  · intro w hSw; (try dsimp only at hSw); go_simp; with_reducible rfl
  try simp only [Act.put, List.setIfInBounds_toArray, List.set_cons_zero, List.set_cons_succ]
  refine wpAnyH_done (by kernel_rfl) ?_ _
  all_goals (refine NoPanic.normal ?_)
  all_goals
    go_wp2
    go_ret
    exact ⟨rfl, HC.out.2.2.1.trans (z7.mono HC.out.2.2.1.size)⟩
end Go.Proofs.Ytiklfjehhdbhfaa
