/-
  MerkleIncludes: the walk. Conditions: the arguments are small.
-/
import Derived.Test.YtiklfjehhdbhfaaMkR
namespace Go.Proofs.Ytiklfjehhdbhfaa
set_option linter.unusedVariables false
open Go.RowKit

/-- an append of one element, whose block lies anywhere -/
theorem stepG {lo : Nat} {w0 w : World} {Rs : List Res} {e : TypeId} {v : Value} {n : Nat} {xs : List Value} {P : Program} {ops : Array Oper} {o : Oper} {a : Act} {K : Act → World → Prop} {Q : Exit → Act → World → Prop} {E : Prop} (t : TypeId) {z : Value} {bytes : Nat} {u : Value} (b : Nat)
    (h : St lo w0 w (ownR e 1 v n xs :: Rs)) (hc : w.cell? ⟨b, 0, none⟩ = some u) (ht : P.underlying t = some (.slice e)) (hi : (P.info? e).map (fun i => (i.zero, i.size, i.bytes)) = some (some z, 1, bytes)) (hzs : z.cells.size = 1)
    (s x : Operand) (ho : o.op = .call { callee := .builtin .append, args := #[s, x], argTypes := #[t, t] }) (hgd : o.guard = none)
    (hs : a.eval s = v) (hx : a.eval x = .slice (some ⟨b, 0, none⟩) 1 1) (hu : u.oneCell' = true) (h63 : n + 1 ≤ maxLen) (hbytes : (n + 1) * bytes ≤ 140737488355328)
    (hk : ∀ g cap w', St lo w0 w' (ownR e 1 (.slice (some ⟨g, 0, none⟩) (n + 1) cap) (n + 1) (xs ++ [u]) :: Rs) → K (a.put o.dst (.slice (some ⟨g, 0, none⟩) (n + 1) cap)) w') :
    if Region.wanted o (yielded ops a.tmps) = true then Oper.wp P o a w K Q else E := by
  rw [if_pos (by unfold Region.wanted; rw [hgd])]
  refine appendS t h ht hi hzs (by decide) s x ho hs ⟨b, 0, none⟩ 1 1 [u] hx rfl ?_ ?_ (by decide) h63 hbytes (fun g cap w' r1 _ _ => hk g cap w' r1)
  · intro j y hj
    match j, hj with
    | 0, hj => simp at hj; subst hj; exact hc
  · intro y hy; simp at hy; subst hy; exact hu
/-- the rest of a list, as the model says it -/
theorem rd_cut {w : World} {g c : Nat} {P : List Mk.Str} (h : Rd w (some ⟨g, 0, none⟩) (strs P)) (hc : P.length ≤ c) : Rd w (if c = 1 then some ⟨g, 0, none⟩ else some ⟨g, 1, none⟩) (strs (P.drop 1)) := by
  by_cases h1 : c = 1
  · have : P.drop 1 = [] := List.drop_eq_nil_of_le (by omega)
    rw [this]
    exact Rd.nil _ _
  · rw [if_neg h1]
    have := rd_drop h 1
    exact this
theorem tmod_nat (a n : Nat) : (a : Int).tmod (n : Int) = ((a % n : Nat) : Int) := by rw [Int.tmod_eq_emod_of_nonneg (by omega)]; rfl
set_option maxRecDepth 20000 in
set_option maxHeartbeats 4000000 in
theorem merkleIncludes_walk (A : Option Addr) (D : List Mk.Str) (c : Nat) (which : Nat) (w : World) (hw : which < 256) (hR : Rd w A (strs D)) (hp : weight D ≤ 1073741824) :
    Calls Try.prog 5 #[.slice A D.length c, .int .u8 which] w fun e w' => e = .returned (.bool true) ∧ Below w.heap.size w w' := by
  have hLl : D.length ≤ 1073741824 := by unfold weight at hp; omega
  have kF := fun W hb => mfew_spec A D c W (hR.below hb) (by omega)
  have kl := fun W hb => leaves_spec A D c W (hR.below hb) hp
  obtain ⟨fb, hfb⟩ : ∃ fb, fewB D = fb := ⟨_, rfl⟩
  rw [hfb] at kF
  have HX := Lib.hid (And.intro hR hp)
  clear hR hp hfb
  go_enter Try.func5, Try.ntmps5
  go_wp2_with fail
  refine (awake_mk _).mono ?_
  rintro e w1 ⟨rfl, b1⟩
  go_wp2_with fail
  refine (kF _ b1).mono ?_
  rintro e w' ⟨rfl, rfl⟩
  cases fb with
  | false =>
    go_wp2
    go_ret
    exact ⟨rfl, b1⟩
  | true =>
  by_cases h40 : D.length > 40
  · have g1 : decide ((D.length : Int) > 40) = true := by simp; omega
    go_wp2
    go_ret
    exact ⟨rfl, b1⟩
  have g1 : decide ((D.length : Int) > 40) = false := by simp; omega
  by_cases h0 : D.length = 0
  · have g2 : ((D.length : Int) == 0) = true := beq_iff_eq.2 (by omega)
    go_wp2
    go_ret
    exact ⟨rfl, b1⟩
  have g2 : ((D.length : Int) == 0) = false := beq_eq_false_iff_ne.2 (by omega)
  have hD : Mk.AllD (D.map Mk.leaf) := leaf_dig D
  have hl : (D.map Mk.leaf).length = D.length := List.length_map ..
  generalize D.map Mk.leaf = L at kl hD hl
  go_wp2_with fail
  refine (kl _ b1).mono ?_
  rintro e w2 ⟨A2, c2, rfl, hc2, hm2, t2⟩
  have h2 := ((St.nil w).under b1).join t2
  have rl : ∀ W, Below w2.heap.size w2 W → Rd W A2 (strs L) := fun W hb => (Rd.of_own t2.own).below hb
  obtain ⟨N, hN⟩ : ∃ N, L.length = N := ⟨_, rfl⟩
  obtain ⟨i, hi⟩ : ∃ i, which % N = i := ⟨_, rfl⟩
  have hiN : i < N := by rw [← hi]; exact Nat.mod_lt _ (by omega)
  have hN40 : N ≤ 40 := by omega
  have hmod : (which : Int).tmod (N : Int) = (i : Int) := by rw [tmod_nat, hi]
  have hmod2 : (which : Int) % (N : Int) = (i : Int) := by rw [← hi]; rfl
  have kroot := fun W hb => root_mk A2 L c2 W (rl W hb) (by omega) hc2 hm2
  rw [mRoot_ok hD (by omega)] at kroot
  have kinc := fun W hb => inc_mk A2 L c2 (i : Int) W (rl W hb) (by omega) hc2 hm2
  rw [mInc_ok hD (by omega) i (by omega)] at kinc
  have hok := incB_ok hD (by omega) i (by omega)
  have hlen := Mk.incl_length L.length L i rfl
  obtain ⟨g, rfl, hgl⟩ := mk_some t2.own (by omega)
  have hcell : ∀ W, Below w2.heap.size w2 W → W.cell? ⟨g, i, none⟩ = some (.string ⟨(L[i]'(by omega)).toArray⟩) := fun W hb => by
    obtain ⟨b', off', hA', h'⟩ := (rl W hb).str (k := i) (by omega)
    cases hA'
    rw [Nat.zero_add] at h'
    exact h'
  have hout : ∀ (x r : Mk.Str) (P : List Mk.Str), incB x (N : Int) (N : Int) P r = false := fun x r P => incB_out x r P _ _ (.inr (by omega))
  have hneg : ∀ (x r : Mk.Str) (P : List Mk.Str), incB x (-1) (N : Int) P r = false := fun x r P => incB_out x r P _ _ (.inl (by omega))
  have hbad : ∀ (x r : Mk.Str) (P : List Mk.Str), P.length ≠ Mk.depth i N → incB x (i : Int) (N : Int) P r = false := fun x r P h => incB_len x r P i N h
  have hdep := Mk.depth_le i N
  obtain ⟨d, hd⟩ : ∃ d, Mk.depth i N = d := ⟨_, rfl⟩
  simp only [hd] at hbad
  rw [hd] at hdep
  generalize L[i]'(by omega) = x at hok hcell
  rw [hN] at kroot kinc hok hlen hc2 t2 ⊢
  rw [hd] at hlen
  generalize Mk.root L = R at kroot hok
  generalize Mk.incl L i = P at kinc hok hlen
  have HH := Lib.hid (And.intro h2 (And.intro rl (And.intro hlen hN)))
  have hi0 : (0 : Int) ≤ (i : Int) := by omega
  have hi1 : (i : Int) < (N : Int) := by omega
  have hNz : ((N : Int) == 0) = false := beq_eq_false_iff_ne.2 (by omega)
  have hNz2 : ¬ (N : Int) = 0 := by omega
  have HI := Lib.hid (And.intro hi (And.intro hout (And.intro hneg hbad)))
  clear hout hneg hbad hi h2 rl hl hD kl kF t2
  go_wp2_with fail
  refine (kroot _ (Below.refl _ _)).mono ?_
  rintro e w3 ⟨rfl, b3⟩
  go_wp2_with fail
  refine (kinc _ b3).mono ?_
  rintro e w4 ⟨v4, rfl, t4⟩
  obtain ⟨A4, c4, rfl, hc4, hm4⟩ := own_form t4.own
  have b4 := b3.trans (t4.below.mono b3.size)
  have x4 := hcell _ b4
  have rp : ∀ W, Below w4.heap.size w4 W → Rd W A4 (strs P) := fun W hb => (Rd.of_own t4.own).below hb
  have kI : ∀ W, Below w4.heap.size w4 W → Calls Try.prog 28 #[.string ⟨x.toArray⟩, .int .i64 i, .int .i64 N, .slice A4 d c4, .string ⟨R.toArray⟩] W fun e w' => e = .returned (.bool true) ∧ Below W.heap.size W w' := fun W hb => by
    have := included_spec x i N A4 P c4 R W (rp W hb) hc4 hm4
    rw [hok] at this
    simp only [hlen] at this
    exact this
  have kO : ∀ W, Below w4.heap.size w4 W → Calls Try.prog 28 #[.string ⟨x.toArray⟩, .int .i64 N, .int .i64 N, .slice A4 d c4, .string ⟨R.toArray⟩] W fun e w' => e = .returned (.bool false) ∧ Below W.heap.size W w' := fun W hb => by
    have := included_spec x N N A4 P c4 R W (rp W hb) hc4 hm4
    rw [HI.out.2.1] at this
    simp only [hlen] at this
    exact this
  have kM : ∀ W, Below w4.heap.size w4 W → Calls Try.prog 28 #[.string ⟨x.toArray⟩, .int .i64 (-1), .int .i64 N, .slice A4 d c4, .string ⟨R.toArray⟩] W fun e w' => e = .returned (.bool false) ∧ Below W.heap.size W w' := fun W hb => by
    have := included_spec x (-1) N A4 P c4 R W (rp W hb) hc4 hm4
    rw [HI.out.2.2.1] at this
    simp only [hlen] at this
    exact this
  rw [hlen] at hc4 t4 ⊢
  go_wp2_with fail
  refine (kI _ (Below.refl _ _)).mono ?_
  rintro e w5 ⟨rfl, b5⟩
  have x5 := hcell _ (b4.trans (b5.mono b4.size))
  go_wp2_with fail
  refine (kO _ b5).mono ?_
  rintro e w6 ⟨rfl, b6⟩
  have b46 := b5.trans (b6.mono b5.size)
  have x6 := hcell _ (b4.trans (b46.mono b4.size))
  go_wp2_with fail
  refine (kM _ b46).mono ?_
  rintro e w7 ⟨rfl, b7⟩
  have b47 := b46.trans (b7.mono b46.size)
  have x7 := hcell _ (b4.trans (b47.mono b4.size))
  have hnil : A4 = none → P.length = 0 ∧ c4 = 0 := fun e => by
    subst e
    rcases t4.own.2 with ⟨e1, e2⟩ | ⟨g, cap, cur, e1, _⟩
    · exact ⟨by rw [hlen]; exact e2, by injection e1⟩
    · cases e1
  have kC : ∀ W, Below w4.heap.size w4 W → Calls Try.prog 29 #[.slice A4 d c4] W fun e w' => ∃ v, e = .returned v ∧ St w4.heap.size w4 w' [ownR 9 1 v d (strs P)] ∧ Below W.heap.size W w' := fun W hb => by
    have := clone_spec A4 P c4 W (rp W hb) hnil (by omega)
    rw [hlen] at this
    exact this.mono fun e w' ⟨v, h1, h2, h3⟩ => ⟨v, h1, ((St.nil w4).under hb).new_own h3 h2, h3⟩
  have kB : ∀ W gg cap, St w4.heap.size w4 W [ownR 9 1 (.slice (some ⟨gg, 0, none⟩) (d + 1) cap) (d + 1) (strs P ++ [.string ⟨R.toArray⟩])] → Calls Try.prog 28 #[.string ⟨x.toArray⟩, .int .i64 i, .int .i64 N, .slice (some ⟨gg, 0, none⟩) (d + 1) cap, .string ⟨R.toArray⟩] W fun e w' => e = .returned (.bool false) ∧ Below W.heap.size W w' := fun W gg cap h => by
    obtain ⟨A9, c9, e9, l9, m9⟩ := own_form h.own
    injection e9 with e1 e2 e3
    subst e1 e3
    have hPl : (P ++ [R]).length = d + 1 := by rw [List.length_append, hlen]; rfl
    have := included_spec x i N (some ⟨gg, 0, none⟩) (P ++ [R]) cap R W (by rw [strs_append]; exact Rd.of_own h.own) (by omega) m9
    rw [HI.out.2.2.2 _ _ _ (by omega), hPl] at this
    exact this
  have y0 := b47.drew
  have s0 := (St.nil w4).under y0
  have q2 : d + 1 ≤ maxLen := by unfold maxLen; omega
  have q1 : (d + 1) * 16 ≤ 140737488355328 := by omega
  have hcl : ∀ W, Below w4.heap.size w4 W → W.cell? ⟨g, i, none⟩ = some (.string ⟨x.toArray⟩) := fun W hb => hcell _ (b4.trans (hb.mono b4.size))
  have HC := Lib.hid (And.intro hcl HH.out.1)
  have HT4 := Lib.hid t4.own
  clear b5 b6 b46 x4 x5 x6 x7 kI kO kM hcl hcell kroot kinc hok t4 b7
  have y9 := (b47.alloc b47.size (.cells #[.string ⟨R.toArray⟩] 9)).drew
  have x9 : (w7.alloc (.cells #[.string ⟨R.toArray⟩] 9)).drew.cell? ⟨w7.heap.size, 0, none⟩ = some (.string ⟨R.toArray⟩) := (Blk.new w7 9 #[.string ⟨R.toArray⟩]).cell 0
  have l9 := World.block_lt_of_cell? _ _ x9
  have X9 := Lib.hid (And.intro x9 l9)
  clear x9 l9
  have HB := Lib.hid (And.intro HH.out.1 b4)
  by_cases hd0 : d = 0
  · subst hd0
    go_wp2_with fail
    refine wp_region_noPanic ?_
    refine wp_region_held_drew (S := (fun w' => w'.cell? ⟨g, i, none⟩ = some (.string ⟨x.toArray⟩))) (by kernel_rfl) ?_ (fun hH0 => ?_)
    · (first
        | exact HC.out.1 _ y0
        | exact HC.out.1 _ y9
        | exact HC.out.1 _ h1.below
        | exact HC.out.1 _ (h1.alloc0 _).below
        | exact HC.out.1 _ h2.below
        | exact HC.out.1 _ h3.below
        | fail)
    refine wpAnyH_take (i := 0) (oi := ⟨some 77, _, _, _, _, _⟩) (v := ?_) rfl (by kernel_rfl) (by kernel_rfl) (by kernel_rfl) (fun _ _ _ h => h) (Or.inl ⟨by rfl, ?_⟩) hH0 ?_
    rotate_left 1
    · intro w hSw; (try dsimp only at hSw); go_simp; with_reducible rfl
    try simp only [Act.put, List.setIfInBounds_toArray, List.set_cons_zero, List.set_cons_succ]
    refine wpAnyH_take (i := 1) (oi := ⟨some 78, _, _, _, _, _⟩) (v := ?_) rfl (by kernel_rfl) (by kernel_rfl) (by kernel_rfl) (fun _ _ _ h => h) (Or.inl ⟨by rfl, ?_⟩) hH0 ?_
    rotate_left 1
    · intro w hSw; (try dsimp only at hSw); go_simp; with_reducible rfl
    try simp only [Act.put, List.setIfInBounds_toArray, List.set_cons_zero, List.set_cons_succ]
    refine wpAnyH_take (i := 2) (oi := ⟨some 79, _, _, _, _, _⟩) (v := ?_) rfl (by kernel_rfl) (by kernel_rfl) (by kernel_rfl) (fun _ _ _ h => h) (Or.inl ⟨by rfl, ?_⟩) hH0 ?_
    rotate_left 1
    · intro w hSw; (try dsimp only at hSw); go_simp; with_reducible rfl
    try simp only [Act.put, List.setIfInBounds_toArray, List.set_cons_zero, List.set_cons_succ]
    refine wpAnyH_take (i := 3) (oi := ⟨some 80, _, _, _, _, _⟩) (v := ?_) rfl (by kernel_rfl) (by kernel_rfl) (by kernel_rfl) (fun _ _ _ h => h) (Or.inl ⟨by rfl, ?_⟩) hH0 ?_
    rotate_left 1
    · intro w hSw; (try dsimp only at hSw); go_simp; with_reducible rfl
    try simp only [Act.put, List.setIfInBounds_toArray, List.set_cons_zero, List.set_cons_succ]
    refine wpAnyH_take (i := 4) (oi := ⟨some 81, _, _, _, _, _⟩) (v := ?_) rfl (by kernel_rfl) (by kernel_rfl) (by kernel_rfl) (fun _ _ _ h => h) (Or.inl ⟨by rfl, ?_⟩) hH0 ?_
    rotate_left 1
    · intro w hSw; (try dsimp only at hSw); go_simp; with_reducible rfl
    try simp only [Act.put, List.setIfInBounds_toArray, List.set_cons_zero, List.set_cons_succ]
    refine wpAnyH_take (i := 5) (oi := ⟨some 82, _, _, _, _, _⟩) (v := ?_) rfl (by kernel_rfl) (by kernel_rfl) (by kernel_rfl) (fun _ _ _ h => h) (Or.inl ⟨by rfl, ?_⟩) hH0 ?_
    rotate_left 1
    · intro w hSw; (try dsimp only at hSw); go_simp; with_reducible rfl
    try simp only [Act.put, List.setIfInBounds_toArray, List.set_cons_zero, List.set_cons_succ]
    refine wpAnyH_take (i := 6) (oi := ⟨some 83, _, _, _, _, _⟩) (v := ?_) rfl (by kernel_rfl) (by kernel_rfl) (by kernel_rfl) (fun _ _ _ h => h) (Or.inl ⟨by rfl, ?_⟩) hH0 ?_
    rotate_left 1
    · intro w hSw; (try dsimp only at hSw); go_simp; with_reducible rfl
    try simp only [Act.put, List.setIfInBounds_toArray, List.set_cons_zero, List.set_cons_succ]
    refine wpAnyH_take (i := 7) (oi := ⟨some 84, _, _, _, _, _⟩) (v := ?_) rfl (by kernel_rfl) (by kernel_rfl) (by kernel_rfl) (fun _ _ _ h => h) (Or.inl ⟨by rfl, ?_⟩) hH0 ?_
    rotate_left 1
    · intro w hSw; (try dsimp only at hSw); go_simp; with_reducible rfl
    try simp only [Act.put, List.setIfInBounds_toArray, List.set_cons_zero, List.set_cons_succ]
    refine wpAnyH_take (i := 9) (oi := ⟨some 86, _, _, _, _, _⟩) (v := ?_) rfl (by kernel_rfl) (by kernel_rfl) (by kernel_rfl) (fun _ _ _ h => h) (Or.inl ⟨by rfl, ?_⟩) hH0 ?_
    rotate_left 1
    · intro w hSw; (try dsimp only at hSw); go_simp; with_reducible rfl
    try simp only [Act.put, List.setIfInBounds_toArray, List.set_cons_zero, List.set_cons_succ]
    refine wpAnyH_take (i := 12) (oi := ⟨some 89, _, _, _, _, _⟩) (v := ?_) rfl (by kernel_rfl) (by kernel_rfl) (by kernel_rfl) (fun _ _ _ h => h) (Or.inl ⟨by rfl, ?_⟩) hH0 ?_
    rotate_left 1
    · intro w hSw; (try dsimp only at hSw); go_simp; with_reducible rfl
    try simp only [Act.put, List.setIfInBounds_toArray, List.set_cons_zero, List.set_cons_succ]
    refine wpAnyH_ready (rs := [8, 10]) (by kernel_rfl) (by simp) ?_
    refine AllReadyH.cons (o := ⟨some 85, _, _, _, _, _⟩) rfl (fun K hK => ?_) ?_
    go_simp; (first
          | (with_reducible refine (kC _ y0).mono ?_
             rintro e u1 ⟨v1, rfl, h1, _⟩)
          | (with_reducible refine (kC _ y9).mono ?_
             rintro e u1 ⟨v1, rfl, h1, bC⟩
             have xC := (bC.cell X9.out.2).trans X9.out.1)
          | (refine stepA 22 (te := 9) (u := .string ⟨R.toArray⟩) h1 Try.underlying22 info_str rfl _ _ (by rfl) (by rfl) (by rfl) (by rfl) rfl q2 q1 ?_
             intro gg cap u2 h2)
          | (refine stepG 22 (u := .string ⟨R.toArray⟩) w7.heap.size h1 xC Try.underlying22 info_str rfl _ _ (by rfl) (by rfl) (by rfl) (by rfl) rfl q2 q1 ?_
             intro gg cap u2 h2)
          | (with_reducible refine (kB _ gg cap h2).mono ?_
             rintro e u3 ⟨rfl, b3'⟩
             have h3 := h2.under b3')
          | fail); go_wp2_with fail
    refine hK.out _ _ ?_ (fun hH1 => ?_)
    · (first
        | exact HC.out.1 _ y0
        | exact HC.out.1 _ y9
        | exact HC.out.1 _ h1.below
        | exact HC.out.1 _ (h1.alloc0 _).below
        | exact HC.out.1 _ h2.below
        | exact HC.out.1 _ h3.below
        | fail)
    clear hK K hH0
    try simp only [Act.put, List.setIfInBounds_toArray, List.set_cons_zero, List.set_cons_succ]
    refine wpAnyH_ready (rs := [10]) (by kernel_rfl) (by simp) ?_
    refine AllReadyH.cons (o := ⟨some 87, _, _, _, _, _⟩) rfl (fun K hK => ?_) AllReadyH.nil
    go_simp
    refine hK.out _ _ ?_ (fun hH2 => ?_)
    · (first
        | exact HC.out.1 _ y0
        | exact HC.out.1 _ y9
        | exact HC.out.1 _ h1.below
        | exact HC.out.1 _ (h1.alloc0 _).below
        | exact HC.out.1 _ h2.below
        | exact HC.out.1 _ h3.below
        | fail)
    clear hK K hH1
    try simp only [Act.put, List.setIfInBounds_toArray, List.set_cons_zero, List.set_cons_succ]
    refine wpAnyH_ready (rs := [11]) (by kernel_rfl) (by simp) ?_
    refine AllReadyH.cons (o := ⟨some 88, _, _, _, _, _⟩) rfl (fun K hK => ?_) AllReadyH.nil
    (first
          | (with_reducible refine (kC _ y0).mono ?_
             rintro e u1 ⟨v1, rfl, h1, _⟩)
          | (with_reducible refine (kC _ y9).mono ?_
             rintro e u1 ⟨v1, rfl, h1, bC⟩
             have xC := (bC.cell X9.out.2).trans X9.out.1)
          | (refine stepA 22 (te := 9) (u := .string ⟨R.toArray⟩) h1 Try.underlying22 info_str rfl _ _ (by rfl) (by rfl) (by rfl) (by rfl) rfl q2 q1 ?_
             intro gg cap u2 h2)
          | (refine stepG 22 (u := .string ⟨R.toArray⟩) w7.heap.size h1 xC Try.underlying22 info_str rfl _ _ (by rfl) (by rfl) (by rfl) (by rfl) rfl q2 q1 ?_
             intro gg cap u2 h2)
          | (with_reducible refine (kB _ gg cap h2).mono ?_
             rintro e u3 ⟨rfl, b3'⟩
             have h3 := h2.under b3')
          | fail)
    refine hK.out _ _ ?_ (fun hH3 => ?_)
    · (first
        | exact HC.out.1 _ y0
        | exact HC.out.1 _ y9
        | exact HC.out.1 _ h1.below
        | exact HC.out.1 _ (h1.alloc0 _).below
        | exact HC.out.1 _ h2.below
        | exact HC.out.1 _ h3.below
        | fail)
    clear hK K hH2
    try simp only [Act.put, List.setIfInBounds_toArray, List.set_cons_zero, List.set_cons_succ]
    refine wpAnyH_ready (rs := [13]) (by kernel_rfl) (by simp) ?_
    refine AllReadyH.cons (o := ⟨some 90, _, _, _, _, _⟩) rfl (fun K hK => ?_) AllReadyH.nil
    go_simp; (first
          | (with_reducible refine (kC _ y0).mono ?_
             rintro e u1 ⟨v1, rfl, h1, _⟩)
          | (with_reducible refine (kC _ y9).mono ?_
             rintro e u1 ⟨v1, rfl, h1, bC⟩
             have xC := (bC.cell X9.out.2).trans X9.out.1)
          | (refine stepA 22 (te := 9) (u := .string ⟨R.toArray⟩) h1 Try.underlying22 info_str rfl _ _ (by rfl) (by rfl) (by rfl) (by rfl) rfl q2 q1 ?_
             intro gg cap u2 h2)
          | (refine stepG 22 (u := .string ⟨R.toArray⟩) w7.heap.size h1 xC Try.underlying22 info_str rfl _ _ (by rfl) (by rfl) (by rfl) (by rfl) rfl q2 q1 ?_
             intro gg cap u2 h2)
          | (with_reducible refine (kB _ gg cap h2).mono ?_
             rintro e u3 ⟨rfl, b3'⟩
             have h3 := h2.under b3')
          | fail); go_wp2_with fail
    refine hK.out _ _ ?_ (fun hH4 => ?_)
    · (first
        | exact HC.out.1 _ y0
        | exact HC.out.1 _ y9
        | exact HC.out.1 _ h1.below
        | exact HC.out.1 _ (h1.alloc0 _).below
        | exact HC.out.1 _ h2.below
        | exact HC.out.1 _ h3.below
        | fail)
    clear hK K hH3
    try simp only [Act.put, List.setIfInBounds_toArray, List.set_cons_zero, List.set_cons_succ]
    refine wpAnyH_take (i := 14) (oi := ⟨some 91, _, _, _, _, _⟩) (v := ?_) rfl (by kernel_rfl) (by kernel_rfl) (by kernel_rfl) (fun _ _ _ h => h) (Or.inl ⟨by rfl, ?_⟩) hH4 ?_
    rotate_left 1
    · intro w hSw; (try dsimp only at hSw); go_simp; with_reducible rfl
    try simp only [Act.put, List.setIfInBounds_toArray, List.set_cons_zero, List.set_cons_succ]
    refine wpAnyH_take (i := 15) (oi := ⟨some 92, _, _, _, _, _⟩) (v := ?_) rfl (by kernel_rfl) (by kernel_rfl) (by kernel_rfl) (fun _ _ _ h => h) (Or.inl ⟨by rfl, ?_⟩) hH4 ?_
    rotate_left 1
    · intro w hSw; (try dsimp only at hSw); go_simp; with_reducible rfl
    try simp only [Act.put, List.setIfInBounds_toArray, List.set_cons_zero, List.set_cons_succ]
    refine wpAnyH_take (i := 16) (oi := ⟨some 93, _, _, _, _, _⟩) (v := ?_) rfl (by kernel_rfl) (by kernel_rfl) (by kernel_rfl) (fun _ _ _ h => h) (Or.inl ⟨by rfl, ?_⟩) hH4 ?_
    rotate_left 1
    · intro w hSw; (try dsimp only at hSw); go_simp; with_reducible rfl
    try simp only [Act.put, List.setIfInBounds_toArray, List.set_cons_zero, List.set_cons_succ]
    refine wpAnyH_take (i := 17) (oi := ⟨some 94, _, _, _, _, _⟩) (v := ?_) rfl (by kernel_rfl) (by kernel_rfl) (by kernel_rfl) (fun _ _ _ h => h) (Or.inl ⟨by rfl, ?_⟩) hH4 ?_
    rotate_left 1
    · intro w hSw; (try dsimp only at hSw); go_simp; with_reducible rfl
    try simp only [Act.put, List.setIfInBounds_toArray, List.set_cons_zero, List.set_cons_succ]
    refine wpAnyH_take (i := 18) (oi := ⟨some 95, _, _, _, _, _⟩) (v := ?_) rfl (by kernel_rfl) (by kernel_rfl) (by kernel_rfl) (fun _ _ _ h => h) (Or.inl ⟨by rfl, ?_⟩) hH4 ?_
    rotate_left 1
    · intro w hSw; (try dsimp only at hSw); go_simp; with_reducible rfl
    try simp only [Act.put, List.setIfInBounds_toArray, List.set_cons_zero, List.set_cons_succ]
    refine wpAnyH_take (i := 19) (oi := ⟨some 96, _, _, _, _, _⟩) (v := ?_) rfl (by kernel_rfl) (by kernel_rfl) (by kernel_rfl) (fun _ _ _ h => h) (Or.inl ⟨by rfl, ?_⟩) hH4 ?_
    rotate_left 1
    · intro w hSw; (try dsimp only at hSw); go_simp; with_reducible rfl
    try simp only [Act.put, List.setIfInBounds_toArray, List.set_cons_zero, List.set_cons_succ]
    refine wpAnyH_take (i := 20) (oi := ⟨some 97, _, _, _, _, _⟩) (v := undef) rfl (by kernel_rfl) (by kernel_rfl) (by kernel_rfl) (fun _ _ _ h => h) (Or.inr ⟨by rfl, rfl⟩) hH4 ?_
    try simp only [Act.put, List.setIfInBounds_toArray, List.set_cons_zero, List.set_cons_succ]
    refine wpAnyH_take (i := 21) (oi := ⟨some 98, _, _, _, _, _⟩) (v := undef) rfl (by kernel_rfl) (by kernel_rfl) (by kernel_rfl) (fun _ _ _ h => h) (Or.inr ⟨by rfl, rfl⟩) hH4 ?_
    try simp only [Act.put, List.setIfInBounds_toArray, List.set_cons_zero, List.set_cons_succ]
    refine wpAnyH_take (i := 22) (oi := ⟨some 99, _, _, _, _, _⟩) (v := undef) rfl (by kernel_rfl) (by kernel_rfl) (by kernel_rfl) (fun _ _ _ h => h) (Or.inr ⟨by rfl, rfl⟩) hH4 ?_
    try simp only [Act.put, List.setIfInBounds_toArray, List.set_cons_zero, List.set_cons_succ]
    refine wpAnyH_take (i := 23) (oi := ⟨some 100, _, _, _, _, _⟩) (v := undef) rfl (by kernel_rfl) (by kernel_rfl) (by kernel_rfl) (fun _ _ _ h => h) (Or.inr ⟨by rfl, rfl⟩) hH4 ?_
    try simp only [Act.put, List.setIfInBounds_toArray, List.set_cons_zero, List.set_cons_succ]
    refine wpAnyH_take (i := 24) (oi := ⟨some 101, _, _, _, _, _⟩) (v := undef) rfl (by kernel_rfl) (by kernel_rfl) (by kernel_rfl) (fun _ _ _ h => h) (Or.inr ⟨by rfl, rfl⟩) hH4 ?_
    try simp only [Act.put, List.setIfInBounds_toArray, List.set_cons_zero, List.set_cons_succ]
    refine wpAnyH_take (i := 25) (oi := ⟨some 102, _, _, _, _, _⟩) (v := undef) rfl (by kernel_rfl) (by kernel_rfl) (by kernel_rfl) (fun _ _ _ h => h) (Or.inr ⟨by rfl, rfl⟩) hH4 ?_
    try simp only [Act.put, List.setIfInBounds_toArray, List.set_cons_zero, List.set_cons_succ]
    refine wpAnyH_take (i := 26) (oi := ⟨some 103, _, _, _, _, _⟩) (v := undef) rfl (by kernel_rfl) (by kernel_rfl) (by kernel_rfl) (fun _ _ _ h => h) (Or.inr ⟨by rfl, rfl⟩) hH4 ?_
    try simp only [Act.put, List.setIfInBounds_toArray, List.set_cons_zero, List.set_cons_succ]
    refine wpAnyH_take (i := 27) (oi := ⟨some 104, _, _, _, _, _⟩) (v := undef) rfl (by kernel_rfl) (by kernel_rfl) (by kernel_rfl) (fun _ _ _ h => h) (Or.inr ⟨by rfl, rfl⟩) hH4 ?_
    try simp only [Act.put, List.setIfInBounds_toArray, List.set_cons_zero, List.set_cons_succ]
    refine wpAnyH_take (i := 28) (oi := ⟨some 105, _, _, _, _, _⟩) (v := undef) rfl (by kernel_rfl) (by kernel_rfl) (by kernel_rfl) (fun _ _ _ h => h) (Or.inr ⟨by rfl, rfl⟩) hH4 ?_
    try simp only [Act.put, List.setIfInBounds_toArray, List.set_cons_zero, List.set_cons_succ]
    refine wpAnyH_take (i := 29) (oi := ⟨some 106, _, _, _, _, _⟩) (v := undef) rfl (by kernel_rfl) (by kernel_rfl) (by kernel_rfl) (fun _ _ _ h => h) (Or.inr ⟨by rfl, rfl⟩) hH4 ?_
    try simp only [Act.put, List.setIfInBounds_toArray, List.set_cons_zero, List.set_cons_succ]
    refine wpAnyH_take (i := 30) (oi := ⟨some 107, _, _, _, _, _⟩) (v := undef) rfl (by kernel_rfl) (by kernel_rfl) (by kernel_rfl) (fun _ _ _ h => h) (Or.inr ⟨by rfl, rfl⟩) hH4 ?_
    try simp only [Act.put, List.setIfInBounds_toArray, List.set_cons_zero, List.set_cons_succ]
    refine wpAnyH_take (i := 31) (oi := ⟨some 108, _, _, _, _, _⟩) (v := undef) rfl (by kernel_rfl) (by kernel_rfl) (by kernel_rfl) (fun _ _ _ h => h) (Or.inr ⟨by rfl, rfl⟩) hH4 ?_
    try simp only [Act.put, List.setIfInBounds_toArray, List.set_cons_zero, List.set_cons_succ]
    refine wpAnyH_take (i := 32) (oi := ⟨some 109, _, _, _, _, _⟩) (v := ?_) rfl (by kernel_rfl) (by kernel_rfl) (by kernel_rfl) (fun _ _ _ h => h) (Or.inl ⟨by rfl, ?_⟩) hH4 ?_
    rotate_left 1
    · intro w hSw; (try dsimp only at hSw); go_simp; with_reducible rfl
    try simp only [Act.put, List.setIfInBounds_toArray, List.set_cons_zero, List.set_cons_succ]
    refine wpAnyH_take (i := 33) (oi := ⟨some 110, _, _, _, _, _⟩) (v := ?_) rfl (by kernel_rfl) (by kernel_rfl) (by kernel_rfl) (fun _ _ _ h => h) (Or.inl ⟨by rfl, ?_⟩) hH4 ?_
    rotate_left 1
    · intro w hSw; (try dsimp only at hSw); go_simp; with_reducible rfl
    try simp only [Act.put, List.setIfInBounds_toArray, List.set_cons_zero, List.set_cons_succ]
    refine wpAnyH_take (i := 34) (oi := ⟨some 4, _, _, _, _, _⟩) (v := ?_) rfl (by kernel_rfl) (by kernel_rfl) (by kernel_rfl) (fun _ _ _ h => h) (Or.inl ⟨by rfl, ?_⟩) hH4 ?_
    rotate_left 1
    · intro w hSw; (try dsimp only at hSw); go_simp; with_reducible rfl
    try simp only [Act.put, List.setIfInBounds_toArray, List.set_cons_zero, List.set_cons_succ]
    refine wpAnyH_done (by kernel_rfl) ?_ _
    rotate_left 1
    refine AllReadyH.cons (o := ⟨some 87, _, _, _, _, _⟩) rfl (fun K hK => ?_) AllReadyH.nil
    go_simp
    refine hK.out _ _ ?_ (fun hH5 => ?_)
    · (first
        | exact HC.out.1 _ y0
        | exact HC.out.1 _ y9
        | exact HC.out.1 _ h1.below
        | exact HC.out.1 _ (h1.alloc0 _).below
        | exact HC.out.1 _ h2.below
        | exact HC.out.1 _ h3.below
        | fail)
    clear hK K hH0
    try simp only [Act.put, List.setIfInBounds_toArray, List.set_cons_zero, List.set_cons_succ]
    refine wpAnyH_ready (rs := [8]) (by kernel_rfl) (by simp) ?_
    refine AllReadyH.cons (o := ⟨some 85, _, _, _, _, _⟩) rfl (fun K hK => ?_) AllReadyH.nil
    go_simp; (first
          | (with_reducible refine (kC _ y0).mono ?_
             rintro e u1 ⟨v1, rfl, h1, _⟩)
          | (with_reducible refine (kC _ y9).mono ?_
             rintro e u1 ⟨v1, rfl, h1, bC⟩
             have xC := (bC.cell X9.out.2).trans X9.out.1)
          | (refine stepA 22 (te := 9) (u := .string ⟨R.toArray⟩) h1 Try.underlying22 info_str rfl _ _ (by rfl) (by rfl) (by rfl) (by rfl) rfl q2 q1 ?_
             intro gg cap u2 h2)
          | (refine stepG 22 (u := .string ⟨R.toArray⟩) w7.heap.size h1 xC Try.underlying22 info_str rfl _ _ (by rfl) (by rfl) (by rfl) (by rfl) rfl q2 q1 ?_
             intro gg cap u2 h2)
          | (with_reducible refine (kB _ gg cap h2).mono ?_
             rintro e u3 ⟨rfl, b3'⟩
             have h3 := h2.under b3')
          | fail); go_wp2_with fail
    refine hK.out _ _ ?_ (fun hH6 => ?_)
    · (first
        | exact HC.out.1 _ y0
        | exact HC.out.1 _ y9
        | exact HC.out.1 _ h1.below
        | exact HC.out.1 _ (h1.alloc0 _).below
        | exact HC.out.1 _ h2.below
        | exact HC.out.1 _ h3.below
        | fail)
    clear hK K hH5
    try simp only [Act.put, List.setIfInBounds_toArray, List.set_cons_zero, List.set_cons_succ]
    refine wpAnyH_ready (rs := [11]) (by kernel_rfl) (by simp) ?_
    refine AllReadyH.cons (o := ⟨some 88, _, _, _, _, _⟩) rfl (fun K hK => ?_) AllReadyH.nil
    (first
          | (with_reducible refine (kC _ y0).mono ?_
             rintro e u1 ⟨v1, rfl, h1, _⟩)
          | (with_reducible refine (kC _ y9).mono ?_
             rintro e u1 ⟨v1, rfl, h1, bC⟩
             have xC := (bC.cell X9.out.2).trans X9.out.1)
          | (refine stepA 22 (te := 9) (u := .string ⟨R.toArray⟩) h1 Try.underlying22 info_str rfl _ _ (by rfl) (by rfl) (by rfl) (by rfl) rfl q2 q1 ?_
             intro gg cap u2 h2)
          | (refine stepG 22 (u := .string ⟨R.toArray⟩) w7.heap.size h1 xC Try.underlying22 info_str rfl _ _ (by rfl) (by rfl) (by rfl) (by rfl) rfl q2 q1 ?_
             intro gg cap u2 h2)
          | (with_reducible refine (kB _ gg cap h2).mono ?_
             rintro e u3 ⟨rfl, b3'⟩
             have h3 := h2.under b3')
          | fail)
    refine hK.out _ _ ?_ (fun hH7 => ?_)
    · (first
        | exact HC.out.1 _ y0
        | exact HC.out.1 _ y9
        | exact HC.out.1 _ h1.below
        | exact HC.out.1 _ (h1.alloc0 _).below
        | exact HC.out.1 _ h2.below
        | exact HC.out.1 _ h3.below
        | fail)
    clear hK K hH6
    try simp only [Act.put, List.setIfInBounds_toArray, List.set_cons_zero, List.set_cons_succ]
    refine wpAnyH_ready (rs := [13]) (by kernel_rfl) (by simp) ?_
    refine AllReadyH.cons (o := ⟨some 90, _, _, _, _, _⟩) rfl (fun K hK => ?_) AllReadyH.nil
    go_simp; (first
          | (with_reducible refine (kC _ y0).mono ?_
             rintro e u1 ⟨v1, rfl, h1, _⟩)
          | (with_reducible refine (kC _ y9).mono ?_
             rintro e u1 ⟨v1, rfl, h1, bC⟩
             have xC := (bC.cell X9.out.2).trans X9.out.1)
          | (refine stepA 22 (te := 9) (u := .string ⟨R.toArray⟩) h1 Try.underlying22 info_str rfl _ _ (by rfl) (by rfl) (by rfl) (by rfl) rfl q2 q1 ?_
             intro gg cap u2 h2)
          | (refine stepG 22 (u := .string ⟨R.toArray⟩) w7.heap.size h1 xC Try.underlying22 info_str rfl _ _ (by rfl) (by rfl) (by rfl) (by rfl) rfl q2 q1 ?_
             intro gg cap u2 h2)
          | (with_reducible refine (kB _ gg cap h2).mono ?_
             rintro e u3 ⟨rfl, b3'⟩
             have h3 := h2.under b3')
          | fail); go_wp2_with fail
    refine hK.out _ _ ?_ (fun hH8 => ?_)
    · (first
        | exact HC.out.1 _ y0
        | exact HC.out.1 _ y9
        | exact HC.out.1 _ h1.below
        | exact HC.out.1 _ (h1.alloc0 _).below
        | exact HC.out.1 _ h2.below
        | exact HC.out.1 _ h3.below
        | fail)
    clear hK K hH7
    try simp only [Act.put, List.setIfInBounds_toArray, List.set_cons_zero, List.set_cons_succ]
    refine wpAnyH_take (i := 14) (oi := ⟨some 91, _, _, _, _, _⟩) (v := ?_) rfl (by kernel_rfl) (by kernel_rfl) (by kernel_rfl) (fun _ _ _ h => h) (Or.inl ⟨by rfl, ?_⟩) hH8 ?_
    rotate_left 1
    · intro w hSw; (try dsimp only at hSw); go_simp; with_reducible rfl
    try simp only [Act.put, List.setIfInBounds_toArray, List.set_cons_zero, List.set_cons_succ]
    refine wpAnyH_take (i := 15) (oi := ⟨some 92, _, _, _, _, _⟩) (v := ?_) rfl (by kernel_rfl) (by kernel_rfl) (by kernel_rfl) (fun _ _ _ h => h) (Or.inl ⟨by rfl, ?_⟩) hH8 ?_
    rotate_left 1
    · intro w hSw; (try dsimp only at hSw); go_simp; with_reducible rfl
    try simp only [Act.put, List.setIfInBounds_toArray, List.set_cons_zero, List.set_cons_succ]
    refine wpAnyH_take (i := 16) (oi := ⟨some 93, _, _, _, _, _⟩) (v := ?_) rfl (by kernel_rfl) (by kernel_rfl) (by kernel_rfl) (fun _ _ _ h => h) (Or.inl ⟨by rfl, ?_⟩) hH8 ?_
    rotate_left 1
    · intro w hSw; (try dsimp only at hSw); go_simp; with_reducible rfl
    try simp only [Act.put, List.setIfInBounds_toArray, List.set_cons_zero, List.set_cons_succ]
    refine wpAnyH_take (i := 17) (oi := ⟨some 94, _, _, _, _, _⟩) (v := ?_) rfl (by kernel_rfl) (by kernel_rfl) (by kernel_rfl) (fun _ _ _ h => h) (Or.inl ⟨by rfl, ?_⟩) hH8 ?_
    rotate_left 1
    · intro w hSw; (try dsimp only at hSw); go_simp; with_reducible rfl
    try simp only [Act.put, List.setIfInBounds_toArray, List.set_cons_zero, List.set_cons_succ]
    refine wpAnyH_take (i := 18) (oi := ⟨some 95, _, _, _, _, _⟩) (v := ?_) rfl (by kernel_rfl) (by kernel_rfl) (by kernel_rfl) (fun _ _ _ h => h) (Or.inl ⟨by rfl, ?_⟩) hH8 ?_
    rotate_left 1
    · intro w hSw; (try dsimp only at hSw); go_simp; with_reducible rfl
    try simp only [Act.put, List.setIfInBounds_toArray, List.set_cons_zero, List.set_cons_succ]
    refine wpAnyH_take (i := 19) (oi := ⟨some 96, _, _, _, _, _⟩) (v := ?_) rfl (by kernel_rfl) (by kernel_rfl) (by kernel_rfl) (fun _ _ _ h => h) (Or.inl ⟨by rfl, ?_⟩) hH8 ?_
    rotate_left 1
    · intro w hSw; (try dsimp only at hSw); go_simp; with_reducible rfl
    try simp only [Act.put, List.setIfInBounds_toArray, List.set_cons_zero, List.set_cons_succ]
    refine wpAnyH_take (i := 20) (oi := ⟨some 97, _, _, _, _, _⟩) (v := undef) rfl (by kernel_rfl) (by kernel_rfl) (by kernel_rfl) (fun _ _ _ h => h) (Or.inr ⟨by rfl, rfl⟩) hH8 ?_
    try simp only [Act.put, List.setIfInBounds_toArray, List.set_cons_zero, List.set_cons_succ]
    refine wpAnyH_take (i := 21) (oi := ⟨some 98, _, _, _, _, _⟩) (v := undef) rfl (by kernel_rfl) (by kernel_rfl) (by kernel_rfl) (fun _ _ _ h => h) (Or.inr ⟨by rfl, rfl⟩) hH8 ?_
    try simp only [Act.put, List.setIfInBounds_toArray, List.set_cons_zero, List.set_cons_succ]
    refine wpAnyH_take (i := 22) (oi := ⟨some 99, _, _, _, _, _⟩) (v := undef) rfl (by kernel_rfl) (by kernel_rfl) (by kernel_rfl) (fun _ _ _ h => h) (Or.inr ⟨by rfl, rfl⟩) hH8 ?_
    try simp only [Act.put, List.setIfInBounds_toArray, List.set_cons_zero, List.set_cons_succ]
    refine wpAnyH_take (i := 23) (oi := ⟨some 100, _, _, _, _, _⟩) (v := undef) rfl (by kernel_rfl) (by kernel_rfl) (by kernel_rfl) (fun _ _ _ h => h) (Or.inr ⟨by rfl, rfl⟩) hH8 ?_
    try simp only [Act.put, List.setIfInBounds_toArray, List.set_cons_zero, List.set_cons_succ]
    refine wpAnyH_take (i := 24) (oi := ⟨some 101, _, _, _, _, _⟩) (v := undef) rfl (by kernel_rfl) (by kernel_rfl) (by kernel_rfl) (fun _ _ _ h => h) (Or.inr ⟨by rfl, rfl⟩) hH8 ?_
    try simp only [Act.put, List.setIfInBounds_toArray, List.set_cons_zero, List.set_cons_succ]
    refine wpAnyH_take (i := 25) (oi := ⟨some 102, _, _, _, _, _⟩) (v := undef) rfl (by kernel_rfl) (by kernel_rfl) (by kernel_rfl) (fun _ _ _ h => h) (Or.inr ⟨by rfl, rfl⟩) hH8 ?_
    try simp only [Act.put, List.setIfInBounds_toArray, List.set_cons_zero, List.set_cons_succ]
    refine wpAnyH_take (i := 26) (oi := ⟨some 103, _, _, _, _, _⟩) (v := undef) rfl (by kernel_rfl) (by kernel_rfl) (by kernel_rfl) (fun _ _ _ h => h) (Or.inr ⟨by rfl, rfl⟩) hH8 ?_
    try simp only [Act.put, List.setIfInBounds_toArray, List.set_cons_zero, List.set_cons_succ]
    refine wpAnyH_take (i := 27) (oi := ⟨some 104, _, _, _, _, _⟩) (v := undef) rfl (by kernel_rfl) (by kernel_rfl) (by kernel_rfl) (fun _ _ _ h => h) (Or.inr ⟨by rfl, rfl⟩) hH8 ?_
    try simp only [Act.put, List.setIfInBounds_toArray, List.set_cons_zero, List.set_cons_succ]
    refine wpAnyH_take (i := 28) (oi := ⟨some 105, _, _, _, _, _⟩) (v := undef) rfl (by kernel_rfl) (by kernel_rfl) (by kernel_rfl) (fun _ _ _ h => h) (Or.inr ⟨by rfl, rfl⟩) hH8 ?_
    try simp only [Act.put, List.setIfInBounds_toArray, List.set_cons_zero, List.set_cons_succ]
    refine wpAnyH_take (i := 29) (oi := ⟨some 106, _, _, _, _, _⟩) (v := undef) rfl (by kernel_rfl) (by kernel_rfl) (by kernel_rfl) (fun _ _ _ h => h) (Or.inr ⟨by rfl, rfl⟩) hH8 ?_
    try simp only [Act.put, List.setIfInBounds_toArray, List.set_cons_zero, List.set_cons_succ]
    refine wpAnyH_take (i := 30) (oi := ⟨some 107, _, _, _, _, _⟩) (v := undef) rfl (by kernel_rfl) (by kernel_rfl) (by kernel_rfl) (fun _ _ _ h => h) (Or.inr ⟨by rfl, rfl⟩) hH8 ?_
    try simp only [Act.put, List.setIfInBounds_toArray, List.set_cons_zero, List.set_cons_succ]
    refine wpAnyH_take (i := 31) (oi := ⟨some 108, _, _, _, _, _⟩) (v := undef) rfl (by kernel_rfl) (by kernel_rfl) (by kernel_rfl) (fun _ _ _ h => h) (Or.inr ⟨by rfl, rfl⟩) hH8 ?_
    try simp only [Act.put, List.setIfInBounds_toArray, List.set_cons_zero, List.set_cons_succ]
    refine wpAnyH_take (i := 32) (oi := ⟨some 109, _, _, _, _, _⟩) (v := ?_) rfl (by kernel_rfl) (by kernel_rfl) (by kernel_rfl) (fun _ _ _ h => h) (Or.inl ⟨by rfl, ?_⟩) hH8 ?_
    rotate_left 1
    · intro w hSw; (try dsimp only at hSw); go_simp; with_reducible rfl
    try simp only [Act.put, List.setIfInBounds_toArray, List.set_cons_zero, List.set_cons_succ]
    refine wpAnyH_take (i := 33) (oi := ⟨some 110, _, _, _, _, _⟩) (v := ?_) rfl (by kernel_rfl) (by kernel_rfl) (by kernel_rfl) (fun _ _ _ h => h) (Or.inl ⟨by rfl, ?_⟩) hH8 ?_
    rotate_left 1
    · intro w hSw; (try dsimp only at hSw); go_simp; with_reducible rfl
    try simp only [Act.put, List.setIfInBounds_toArray, List.set_cons_zero, List.set_cons_succ]
    refine wpAnyH_take (i := 34) (oi := ⟨some 4, _, _, _, _, _⟩) (v := ?_) rfl (by kernel_rfl) (by kernel_rfl) (by kernel_rfl) (fun _ _ _ h => h) (Or.inl ⟨by rfl, ?_⟩) hH8 ?_
    rotate_left 1
    · intro w hSw; (try dsimp only at hSw); go_simp; with_reducible rfl
    try simp only [Act.put, List.setIfInBounds_toArray, List.set_cons_zero, List.set_cons_succ]
    refine wpAnyH_done (by kernel_rfl) ?_ _
    all_goals (refine NoPanic.normal ?_)
    all_goals
      go_wp2
      go_ret
      exact ⟨rfl, (HB.out.1.below.trans (HB.out.2.mono HB.out.1.size)).trans (h3.below.mono (Nat.le_trans HB.out.1.size HB.out.2.size))⟩
  · obtain ⟨g4, rfl, hgl4⟩ := mk_some HT4.out (by omega)
    have kT : ∀ W, Below w4.heap.size w4 W → Calls Try.prog 28 #[.string ⟨x.toArray⟩, .int .i64 i, .int .i64 N, .slice (if c4 = 1 then some ⟨g4, 0, none⟩ else some ⟨g4, 1, none⟩) (d - 1) (c4 - 1), .string ⟨R.toArray⟩] W fun e w' => e = .returned (.bool false) ∧ Below W.heap.size W w' := fun W hb => by
      have hPl : (P.drop 1).length = d - 1 := by rw [List.length_drop, HH.out.2.2.1]
      have := included_spec x i N (if c4 = 1 then some ⟨g4, 0, none⟩ else some ⟨g4, 1, none⟩) (P.drop 1) (c4 - 1) R W (rd_cut (rp W hb) (by rw [HH.out.2.2.1]; exact hc4)) (by omega) (by omega)
      rw [HI.out.2.2.2 _ _ _ (by omega), hPl] at this
      exact this
    have g0 : ((d : Int) == 0) = false := beq_eq_false_iff_ne.2 (by omega)
    have i1 : (1 : Int) ≤ (d : Int) := by omega
    have i2 : (d : Int) ≤ (c4 : Int) := by omega
    go_wp2_with fail
    refine wp_region_noPanic ?_
    refine wp_region_held_drew (S := (fun w' => w'.cell? ⟨g, i, none⟩ = some (.string ⟨x.toArray⟩))) (by kernel_rfl) ?_ (fun hH0 => ?_)
    · (first
        | exact HC.out.1 _ y0
        | exact HC.out.1 _ y9
        | exact HC.out.1 _ h1.below
        | exact HC.out.1 _ (h1.alloc0 _).below
        | exact HC.out.1 _ h2.below
        | exact HC.out.1 _ h3.below
        | exact HC.out.1 _ h4.below
        | fail)
    refine wpAnyH_take (i := 0) (oi := ⟨some 77, _, _, _, _, _⟩) (v := ?_) rfl (by kernel_rfl) (by kernel_rfl) (by kernel_rfl) (fun _ _ _ h => h) (Or.inl ⟨by rfl, ?_⟩) hH0 ?_
    rotate_left 1
    · intro w hSw; (try dsimp only at hSw); go_simp; with_reducible rfl
    try simp only [Act.put, List.setIfInBounds_toArray, List.set_cons_zero, List.set_cons_succ]
    refine wpAnyH_take (i := 1) (oi := ⟨some 78, _, _, _, _, _⟩) (v := ?_) rfl (by kernel_rfl) (by kernel_rfl) (by kernel_rfl) (fun _ _ _ h => h) (Or.inl ⟨by rfl, ?_⟩) hH0 ?_
    rotate_left 1
    · intro w hSw; (try dsimp only at hSw); go_simp; with_reducible rfl
    try simp only [Act.put, List.setIfInBounds_toArray, List.set_cons_zero, List.set_cons_succ]
    refine wpAnyH_take (i := 2) (oi := ⟨some 79, _, _, _, _, _⟩) (v := ?_) rfl (by kernel_rfl) (by kernel_rfl) (by kernel_rfl) (fun _ _ _ h => h) (Or.inl ⟨by rfl, ?_⟩) hH0 ?_
    rotate_left 1
    · intro w hSw; (try dsimp only at hSw); go_simp; with_reducible rfl
    try simp only [Act.put, List.setIfInBounds_toArray, List.set_cons_zero, List.set_cons_succ]
    refine wpAnyH_take (i := 3) (oi := ⟨some 80, _, _, _, _, _⟩) (v := ?_) rfl (by kernel_rfl) (by kernel_rfl) (by kernel_rfl) (fun _ _ _ h => h) (Or.inl ⟨by rfl, ?_⟩) hH0 ?_
    rotate_left 1
    · intro w hSw; (try dsimp only at hSw); go_simp; with_reducible rfl
    try simp only [Act.put, List.setIfInBounds_toArray, List.set_cons_zero, List.set_cons_succ]
    refine wpAnyH_take (i := 4) (oi := ⟨some 81, _, _, _, _, _⟩) (v := ?_) rfl (by kernel_rfl) (by kernel_rfl) (by kernel_rfl) (fun _ _ _ h => h) (Or.inl ⟨by rfl, ?_⟩) hH0 ?_
    rotate_left 1
    · intro w hSw; (try dsimp only at hSw); go_simp; with_reducible rfl
    try simp only [Act.put, List.setIfInBounds_toArray, List.set_cons_zero, List.set_cons_succ]
    refine wpAnyH_take (i := 5) (oi := ⟨some 82, _, _, _, _, _⟩) (v := ?_) rfl (by kernel_rfl) (by kernel_rfl) (by kernel_rfl) (fun _ _ _ h => h) (Or.inl ⟨by rfl, ?_⟩) hH0 ?_
    rotate_left 1
    · intro w hSw; (try dsimp only at hSw); go_simp; with_reducible rfl
    try simp only [Act.put, List.setIfInBounds_toArray, List.set_cons_zero, List.set_cons_succ]
    refine wpAnyH_take (i := 6) (oi := ⟨some 83, _, _, _, _, _⟩) (v := ?_) rfl (by kernel_rfl) (by kernel_rfl) (by kernel_rfl) (fun _ _ _ h => h) (Or.inl ⟨by rfl, ?_⟩) hH0 ?_
    rotate_left 1
    · intro w hSw; (try dsimp only at hSw); go_simp; with_reducible rfl
    try simp only [Act.put, List.setIfInBounds_toArray, List.set_cons_zero, List.set_cons_succ]
    refine wpAnyH_take (i := 7) (oi := ⟨some 84, _, _, _, _, _⟩) (v := ?_) rfl (by kernel_rfl) (by kernel_rfl) (by kernel_rfl) (fun _ _ _ h => h) (Or.inl ⟨by rfl, ?_⟩) hH0 ?_
    rotate_left 1
    · intro w hSw; (try dsimp only at hSw); go_simp; with_reducible rfl
    try simp only [Act.put, List.setIfInBounds_toArray, List.set_cons_zero, List.set_cons_succ]
    refine wpAnyH_take (i := 9) (oi := ⟨some 86, _, _, _, _, _⟩) (v := ?_) rfl (by kernel_rfl) (by kernel_rfl) (by kernel_rfl) (fun _ _ _ h => h) (Or.inl ⟨by rfl, ?_⟩) hH0 ?_
    rotate_left 1
    · intro w hSw; (try dsimp only at hSw); go_simp; with_reducible rfl
    try simp only [Act.put, List.setIfInBounds_toArray, List.set_cons_zero, List.set_cons_succ]
    refine wpAnyH_take (i := 12) (oi := ⟨some 89, _, _, _, _, _⟩) (v := ?_) rfl (by kernel_rfl) (by kernel_rfl) (by kernel_rfl) (fun _ _ _ h => h) (Or.inl ⟨by rfl, ?_⟩) hH0 ?_
    rotate_left 1
    · intro w hSw; (try dsimp only at hSw); go_simp; with_reducible rfl
    try simp only [Act.put, List.setIfInBounds_toArray, List.set_cons_zero, List.set_cons_succ]
    refine wpAnyH_ready (rs := [8, 10]) (by kernel_rfl) (by simp) ?_
    refine AllReadyH.cons (o := ⟨some 85, _, _, _, _, _⟩) rfl (fun K hK => ?_) ?_
    go_simp; (first
          | (with_reducible refine (kC _ y0).mono ?_
             rintro e u1 ⟨v1, rfl, h1, _⟩)
          | (with_reducible refine (kC _ y9).mono ?_
             rintro e u1 ⟨v1, rfl, h1, bC⟩
             have xC := (bC.cell X9.out.2).trans X9.out.1)
          | (refine stepA 22 (te := 9) (u := .string ⟨R.toArray⟩) h1 Try.underlying22 info_str rfl _ _ (by rfl) (by rfl) (by rfl) (by rfl) rfl q2 q1 ?_
             intro gg cap u2 h2)
          | (refine stepG 22 (u := .string ⟨R.toArray⟩) w7.heap.size h1 xC Try.underlying22 info_str rfl _ _ (by rfl) (by rfl) (by rfl) (by rfl) rfl q2 q1 ?_
             intro gg cap u2 h2)
          | (with_reducible refine (kB _ gg cap h2).mono ?_
             rintro e u3 ⟨rfl, b3'⟩
             have h3 := h2.under b3')
          | (with_reducible refine (kT _ h3.below).mono ?_
             rintro e u4 ⟨rfl, b4'⟩
             have h4 := h3.under b4'
             generalize (if c4 = 1 then (some ⟨g4, 0, none⟩ : Option Addr) else some ⟨g4, 1, none⟩) = A5)
          | fail); go_wp2_with fail
    refine hK.out _ _ ?_ (fun hH1 => ?_)
    · (first
        | exact HC.out.1 _ y0
        | exact HC.out.1 _ y9
        | exact HC.out.1 _ h1.below
        | exact HC.out.1 _ (h1.alloc0 _).below
        | exact HC.out.1 _ h2.below
        | exact HC.out.1 _ h3.below
        | exact HC.out.1 _ h4.below
        | fail)
    clear hK K hH0
    try simp only [Act.put, List.setIfInBounds_toArray, List.set_cons_zero, List.set_cons_succ]
    refine wpAnyH_ready (rs := [10]) (by kernel_rfl) (by simp) ?_
    refine AllReadyH.cons (o := ⟨some 87, _, _, _, _, _⟩) rfl (fun K hK => ?_) AllReadyH.nil
    go_simp
    refine hK.out _ _ ?_ (fun hH2 => ?_)
    · (first
        | exact HC.out.1 _ y0
        | exact HC.out.1 _ y9
        | exact HC.out.1 _ h1.below
        | exact HC.out.1 _ (h1.alloc0 _).below
        | exact HC.out.1 _ h2.below
        | exact HC.out.1 _ h3.below
        | exact HC.out.1 _ h4.below
        | fail)
    clear hK K hH1
    try simp only [Act.put, List.setIfInBounds_toArray, List.set_cons_zero, List.set_cons_succ]
    refine wpAnyH_ready (rs := [11]) (by kernel_rfl) (by simp) ?_
    refine AllReadyH.cons (o := ⟨some 88, _, _, _, _, _⟩) rfl (fun K hK => ?_) AllReadyH.nil
    (first
          | (with_reducible refine (kC _ y0).mono ?_
             rintro e u1 ⟨v1, rfl, h1, _⟩)
          | (with_reducible refine (kC _ y9).mono ?_
             rintro e u1 ⟨v1, rfl, h1, bC⟩
             have xC := (bC.cell X9.out.2).trans X9.out.1)
          | (refine stepA 22 (te := 9) (u := .string ⟨R.toArray⟩) h1 Try.underlying22 info_str rfl _ _ (by rfl) (by rfl) (by rfl) (by rfl) rfl q2 q1 ?_
             intro gg cap u2 h2)
          | (refine stepG 22 (u := .string ⟨R.toArray⟩) w7.heap.size h1 xC Try.underlying22 info_str rfl _ _ (by rfl) (by rfl) (by rfl) (by rfl) rfl q2 q1 ?_
             intro gg cap u2 h2)
          | (with_reducible refine (kB _ gg cap h2).mono ?_
             rintro e u3 ⟨rfl, b3'⟩
             have h3 := h2.under b3')
          | (with_reducible refine (kT _ h3.below).mono ?_
             rintro e u4 ⟨rfl, b4'⟩
             have h4 := h3.under b4'
             generalize (if c4 = 1 then (some ⟨g4, 0, none⟩ : Option Addr) else some ⟨g4, 1, none⟩) = A5)
          | fail)
    refine hK.out _ _ ?_ (fun hH3 => ?_)
    · (first
        | exact HC.out.1 _ y0
        | exact HC.out.1 _ y9
        | exact HC.out.1 _ h1.below
        | exact HC.out.1 _ (h1.alloc0 _).below
        | exact HC.out.1 _ h2.below
        | exact HC.out.1 _ h3.below
        | exact HC.out.1 _ h4.below
        | fail)
    clear hK K hH2
    try simp only [Act.put, List.setIfInBounds_toArray, List.set_cons_zero, List.set_cons_succ]
    refine wpAnyH_ready (rs := [13]) (by kernel_rfl) (by simp) ?_
    refine AllReadyH.cons (o := ⟨some 90, _, _, _, _, _⟩) rfl (fun K hK => ?_) AllReadyH.nil
    go_simp; (first
          | (with_reducible refine (kC _ y0).mono ?_
             rintro e u1 ⟨v1, rfl, h1, _⟩)
          | (with_reducible refine (kC _ y9).mono ?_
             rintro e u1 ⟨v1, rfl, h1, bC⟩
             have xC := (bC.cell X9.out.2).trans X9.out.1)
          | (refine stepA 22 (te := 9) (u := .string ⟨R.toArray⟩) h1 Try.underlying22 info_str rfl _ _ (by rfl) (by rfl) (by rfl) (by rfl) rfl q2 q1 ?_
             intro gg cap u2 h2)
          | (refine stepG 22 (u := .string ⟨R.toArray⟩) w7.heap.size h1 xC Try.underlying22 info_str rfl _ _ (by rfl) (by rfl) (by rfl) (by rfl) rfl q2 q1 ?_
             intro gg cap u2 h2)
          | (with_reducible refine (kB _ gg cap h2).mono ?_
             rintro e u3 ⟨rfl, b3'⟩
             have h3 := h2.under b3')
          | (with_reducible refine (kT _ h3.below).mono ?_
             rintro e u4 ⟨rfl, b4'⟩
             have h4 := h3.under b4'
             generalize (if c4 = 1 then (some ⟨g4, 0, none⟩ : Option Addr) else some ⟨g4, 1, none⟩) = A5)
          | fail); go_wp2_with fail
    refine hK.out _ _ ?_ (fun hH4 => ?_)
    · (first
        | exact HC.out.1 _ y0
        | exact HC.out.1 _ y9
        | exact HC.out.1 _ h1.below
        | exact HC.out.1 _ (h1.alloc0 _).below
        | exact HC.out.1 _ h2.below
        | exact HC.out.1 _ h3.below
        | exact HC.out.1 _ h4.below
        | fail)
    clear hK K hH3
    try simp only [Act.put, List.setIfInBounds_toArray, List.set_cons_zero, List.set_cons_succ]
    refine wpAnyH_take (i := 14) (oi := ⟨some 91, _, _, _, _, _⟩) (v := ?_) rfl (by kernel_rfl) (by kernel_rfl) (by kernel_rfl) (fun _ _ _ h => h) (Or.inl ⟨by rfl, ?_⟩) hH4 ?_
    rotate_left 1
    · intro w hSw; (try dsimp only at hSw); go_simp; with_reducible rfl
    try simp only [Act.put, List.setIfInBounds_toArray, List.set_cons_zero, List.set_cons_succ]
    refine wpAnyH_take (i := 15) (oi := ⟨some 92, _, _, _, _, _⟩) (v := ?_) rfl (by kernel_rfl) (by kernel_rfl) (by kernel_rfl) (fun _ _ _ h => h) (Or.inl ⟨by rfl, ?_⟩) hH4 ?_
    rotate_left 1
    · intro w hSw; (try dsimp only at hSw); go_simp; with_reducible rfl
    try simp only [Act.put, List.setIfInBounds_toArray, List.set_cons_zero, List.set_cons_succ]
    refine wpAnyH_take (i := 16) (oi := ⟨some 93, _, _, _, _, _⟩) (v := ?_) rfl (by kernel_rfl) (by kernel_rfl) (by kernel_rfl) (fun _ _ _ h => h) (Or.inl ⟨by rfl, ?_⟩) hH4 ?_
    rotate_left 1
    · intro w hSw; (try dsimp only at hSw); go_simp; with_reducible rfl
    try simp only [Act.put, List.setIfInBounds_toArray, List.set_cons_zero, List.set_cons_succ]
    refine wpAnyH_take (i := 17) (oi := ⟨some 94, _, _, _, _, _⟩) (v := ?_) rfl (by kernel_rfl) (by kernel_rfl) (by kernel_rfl) (fun _ _ _ h => h) (Or.inl ⟨by rfl, ?_⟩) hH4 ?_
    rotate_left 1
    · intro w hSw; (try dsimp only at hSw); go_simp; with_reducible rfl
    try simp only [Act.put, List.setIfInBounds_toArray, List.set_cons_zero, List.set_cons_succ]
    refine wpAnyH_take (i := 18) (oi := ⟨some 95, _, _, _, _, _⟩) (v := ?_) rfl (by kernel_rfl) (by kernel_rfl) (by kernel_rfl) (fun _ _ _ h => h) (Or.inl ⟨by rfl, ?_⟩) hH4 ?_
    rotate_left 1
    · intro w hSw; (try dsimp only at hSw); go_simp; with_reducible rfl
    try simp only [Act.put, List.setIfInBounds_toArray, List.set_cons_zero, List.set_cons_succ]
    refine wpAnyH_take (i := 19) (oi := ⟨some 96, _, _, _, _, _⟩) (v := ?_) rfl (by kernel_rfl) (by kernel_rfl) (by kernel_rfl) (fun _ _ _ h => h) (Or.inl ⟨by rfl, ?_⟩) hH4 ?_
    rotate_left 1
    · intro w hSw; (try dsimp only at hSw); go_simp; with_reducible rfl
    try simp only [Act.put, List.setIfInBounds_toArray, List.set_cons_zero, List.set_cons_succ]
    refine wpAnyH_take (i := 20) (oi := ⟨some 97, _, _, _, _, _⟩) (v := ?_) rfl (by kernel_rfl) (by kernel_rfl) (by kernel_rfl) (fun _ _ _ h => h) (Or.inl ⟨by rfl, ?_⟩) hH4 ?_
    rotate_left 1
    · intro w hSw; (try dsimp only at hSw); go_simp; with_reducible rfl
    try simp only [Act.put, List.setIfInBounds_toArray, List.set_cons_zero, List.set_cons_succ]
    refine wpAnyH_take (i := 21) (oi := ⟨some 98, _, _, _, _, _⟩) (v := ?_) rfl (by kernel_rfl) (by kernel_rfl) (by kernel_rfl) (fun _ _ _ h => h) (Or.inl ⟨by rfl, ?_⟩) hH4 ?_
    rotate_left 1
    · intro w hSw; (try dsimp only at hSw); go_simp; with_reducible rfl
    try simp only [Act.put, List.setIfInBounds_toArray, List.set_cons_zero, List.set_cons_succ]
    refine wpAnyH_take (i := 22) (oi := ⟨some 99, _, _, _, _, _⟩) (v := ?_) rfl (by kernel_rfl) (by kernel_rfl) (by kernel_rfl) (fun _ _ _ h => h) (Or.inl ⟨by rfl, ?_⟩) hH4 ?_
    rotate_left 1
    · intro w hSw; (try dsimp only at hSw); go_simp; with_reducible rfl
    try simp only [Act.put, List.setIfInBounds_toArray, List.set_cons_zero, List.set_cons_succ]
    refine wpAnyH_take (i := 23) (oi := ⟨some 100, _, _, _, _, _⟩) (v := ?_) rfl (by kernel_rfl) (by kernel_rfl) (by kernel_rfl) (fun _ _ _ h => h) (Or.inl ⟨by rfl, ?_⟩) hH4 ?_
    rotate_left 1
    · intro w hSw; (try dsimp only at hSw); go_simp; with_reducible rfl
    try simp only [Act.put, List.setIfInBounds_toArray, List.set_cons_zero, List.set_cons_succ]
    refine wpAnyH_take (i := 24) (oi := ⟨some 101, _, _, _, _, _⟩) (v := ?_) rfl (by kernel_rfl) (by kernel_rfl) (by kernel_rfl) (fun _ _ _ h => h) (Or.inl ⟨by rfl, ?_⟩) hH4 ?_
    rotate_left 1
    · intro w hSw; (try dsimp only at hSw); go_simp; with_reducible rfl
    try simp only [Act.put, List.setIfInBounds_toArray, List.set_cons_zero, List.set_cons_succ]
    refine wpAnyH_take (i := 25) (oi := ⟨some 102, _, _, _, _, _⟩) (v := ?_) rfl (by kernel_rfl) (by kernel_rfl) (by kernel_rfl) (fun _ _ _ h => h) (Or.inl ⟨by rfl, ?_⟩) hH4 ?_
    rotate_left 1
    · intro w hSw; (try dsimp only at hSw); go_simp; with_reducible rfl
    try simp only [Act.put, List.setIfInBounds_toArray, List.set_cons_zero, List.set_cons_succ]
    refine wpAnyH_take (i := 26) (oi := ⟨some 103, _, _, _, _, _⟩) (v := ?_) rfl (by kernel_rfl) (by kernel_rfl) (by kernel_rfl) (fun _ _ _ h => h) (Or.inl ⟨by rfl, ?_⟩) hH4 ?_
    rotate_left 1
    · intro w hSw; (try dsimp only at hSw); go_simp; with_reducible rfl
    try simp only [Act.put, List.setIfInBounds_toArray, List.set_cons_zero, List.set_cons_succ]
    refine wpAnyH_take (i := 27) (oi := ⟨some 104, _, _, _, _, _⟩) (v := ?_) rfl (by kernel_rfl) (by kernel_rfl) (by kernel_rfl) (fun _ _ _ h => h) (Or.inl ⟨by rfl, ?_⟩) hH4 ?_
    rotate_left 1
    · intro w hSw; (try dsimp only at hSw); go_simp; with_reducible rfl
    try simp only [Act.put, List.setIfInBounds_toArray, List.set_cons_zero, List.set_cons_succ]
    refine wpAnyH_take (i := 28) (oi := ⟨some 105, _, _, _, _, _⟩) (v := ?_) rfl (by kernel_rfl) (by kernel_rfl) (by kernel_rfl) (fun _ _ _ h => h) (Or.inl ⟨by rfl, ?_⟩) hH4 ?_
    rotate_left 1
    · intro w hSw; (try dsimp only at hSw); go_simp; with_reducible rfl
    try simp only [Act.put, List.setIfInBounds_toArray, List.set_cons_zero, List.set_cons_succ]
    refine wpAnyH_take (i := 29) (oi := ⟨some 106, _, _, _, _, _⟩) (v := ?_) rfl (by kernel_rfl) (by kernel_rfl) (by kernel_rfl) (fun _ _ _ h => h) (Or.inl ⟨by rfl, ?_⟩) hH4 ?_
    rotate_left 1
    · intro w hSw; (try dsimp only at hSw); go_simp; with_reducible rfl
    try simp only [Act.put, List.setIfInBounds_toArray, List.set_cons_zero, List.set_cons_succ]
    refine wpAnyH_ready (rs := [30]) (by kernel_rfl) (by simp) ?_
    refine AllReadyH.cons (o := ⟨some 107, _, _, _, _, _⟩) rfl (fun K hK => ?_) AllReadyH.nil
    go_simp; (first
          | (with_reducible refine (kC _ y0).mono ?_
             rintro e u1 ⟨v1, rfl, h1, _⟩)
          | (with_reducible refine (kC _ y9).mono ?_
             rintro e u1 ⟨v1, rfl, h1, bC⟩
             have xC := (bC.cell X9.out.2).trans X9.out.1)
          | (refine stepA 22 (te := 9) (u := .string ⟨R.toArray⟩) h1 Try.underlying22 info_str rfl _ _ (by rfl) (by rfl) (by rfl) (by rfl) rfl q2 q1 ?_
             intro gg cap u2 h2)
          | (refine stepG 22 (u := .string ⟨R.toArray⟩) w7.heap.size h1 xC Try.underlying22 info_str rfl _ _ (by rfl) (by rfl) (by rfl) (by rfl) rfl q2 q1 ?_
             intro gg cap u2 h2)
          | (with_reducible refine (kB _ gg cap h2).mono ?_
             rintro e u3 ⟨rfl, b3'⟩
             have h3 := h2.under b3')
          | (with_reducible refine (kT _ h3.below).mono ?_
             rintro e u4 ⟨rfl, b4'⟩
             have h4 := h3.under b4'
             generalize (if c4 = 1 then (some ⟨g4, 0, none⟩ : Option Addr) else some ⟨g4, 1, none⟩) = A5)
          | fail); go_wp2_with fail
    refine hK.out _ _ ?_ (fun hH5 => ?_)
    · (first
        | exact HC.out.1 _ y0
        | exact HC.out.1 _ y9
        | exact HC.out.1 _ h1.below
        | exact HC.out.1 _ (h1.alloc0 _).below
        | exact HC.out.1 _ h2.below
        | exact HC.out.1 _ h3.below
        | exact HC.out.1 _ h4.below
        | fail)
    clear hK K hH4
    try simp only [Act.put, List.setIfInBounds_toArray, List.set_cons_zero, List.set_cons_succ]
    refine wpAnyH_take (i := 31) (oi := ⟨some 108, _, _, _, _, _⟩) (v := ?_) rfl (by kernel_rfl) (by kernel_rfl) (by kernel_rfl) (fun _ _ _ h => h) (Or.inl ⟨by rfl, ?_⟩) hH5 ?_
    rotate_left 1
    · intro w hSw; (try dsimp only at hSw); go_simp; with_reducible rfl
    try simp only [Act.put, List.setIfInBounds_toArray, List.set_cons_zero, List.set_cons_succ]
    refine wpAnyH_take (i := 32) (oi := ⟨some 109, _, _, _, _, _⟩) (v := ?_) rfl (by kernel_rfl) (by kernel_rfl) (by kernel_rfl) (fun _ _ _ h => h) (Or.inl ⟨by rfl, ?_⟩) hH5 ?_
    rotate_left 1
    · intro w hSw; (try dsimp only at hSw); go_simp; with_reducible rfl
    try simp only [Act.put, List.setIfInBounds_toArray, List.set_cons_zero, List.set_cons_succ]
    refine wpAnyH_take (i := 33) (oi := ⟨some 110, _, _, _, _, _⟩) (v := ?_) rfl (by kernel_rfl) (by kernel_rfl) (by kernel_rfl) (fun _ _ _ h => h) (Or.inl ⟨by rfl, ?_⟩) hH5 ?_
    rotate_left 1
    · intro w hSw; (try dsimp only at hSw); go_simp; with_reducible rfl
    try simp only [Act.put, List.setIfInBounds_toArray, List.set_cons_zero, List.set_cons_succ]
    refine wpAnyH_take (i := 34) (oi := ⟨some 4, _, _, _, _, _⟩) (v := ?_) rfl (by kernel_rfl) (by kernel_rfl) (by kernel_rfl) (fun _ _ _ h => h) (Or.inl ⟨by rfl, ?_⟩) hH5 ?_
    rotate_left 1
    · intro w hSw; (try dsimp only at hSw); go_simp; with_reducible rfl
    try simp only [Act.put, List.setIfInBounds_toArray, List.set_cons_zero, List.set_cons_succ]
    refine wpAnyH_done (by kernel_rfl) ?_ _
    rotate_left 1
    refine AllReadyH.cons (o := ⟨some 87, _, _, _, _, _⟩) rfl (fun K hK => ?_) AllReadyH.nil
    go_simp
    refine hK.out _ _ ?_ (fun hH6 => ?_)
    · (first
        | exact HC.out.1 _ y0
        | exact HC.out.1 _ y9
        | exact HC.out.1 _ h1.below
        | exact HC.out.1 _ (h1.alloc0 _).below
        | exact HC.out.1 _ h2.below
        | exact HC.out.1 _ h3.below
        | exact HC.out.1 _ h4.below
        | fail)
    clear hK K hH0
    try simp only [Act.put, List.setIfInBounds_toArray, List.set_cons_zero, List.set_cons_succ]
    refine wpAnyH_ready (rs := [8]) (by kernel_rfl) (by simp) ?_
    refine AllReadyH.cons (o := ⟨some 85, _, _, _, _, _⟩) rfl (fun K hK => ?_) AllReadyH.nil
    go_simp; (first
          | (with_reducible refine (kC _ y0).mono ?_
             rintro e u1 ⟨v1, rfl, h1, _⟩)
          | (with_reducible refine (kC _ y9).mono ?_
             rintro e u1 ⟨v1, rfl, h1, bC⟩
             have xC := (bC.cell X9.out.2).trans X9.out.1)
          | (refine stepA 22 (te := 9) (u := .string ⟨R.toArray⟩) h1 Try.underlying22 info_str rfl _ _ (by rfl) (by rfl) (by rfl) (by rfl) rfl q2 q1 ?_
             intro gg cap u2 h2)
          | (refine stepG 22 (u := .string ⟨R.toArray⟩) w7.heap.size h1 xC Try.underlying22 info_str rfl _ _ (by rfl) (by rfl) (by rfl) (by rfl) rfl q2 q1 ?_
             intro gg cap u2 h2)
          | (with_reducible refine (kB _ gg cap h2).mono ?_
             rintro e u3 ⟨rfl, b3'⟩
             have h3 := h2.under b3')
          | (with_reducible refine (kT _ h3.below).mono ?_
             rintro e u4 ⟨rfl, b4'⟩
             have h4 := h3.under b4'
             generalize (if c4 = 1 then (some ⟨g4, 0, none⟩ : Option Addr) else some ⟨g4, 1, none⟩) = A5)
          | fail); go_wp2_with fail
    refine hK.out _ _ ?_ (fun hH7 => ?_)
    · (first
        | exact HC.out.1 _ y0
        | exact HC.out.1 _ y9
        | exact HC.out.1 _ h1.below
        | exact HC.out.1 _ (h1.alloc0 _).below
        | exact HC.out.1 _ h2.below
        | exact HC.out.1 _ h3.below
        | exact HC.out.1 _ h4.below
        | fail)
    clear hK K hH6
    try simp only [Act.put, List.setIfInBounds_toArray, List.set_cons_zero, List.set_cons_succ]
    refine wpAnyH_ready (rs := [11]) (by kernel_rfl) (by simp) ?_
    refine AllReadyH.cons (o := ⟨some 88, _, _, _, _, _⟩) rfl (fun K hK => ?_) AllReadyH.nil
    (first
          | (with_reducible refine (kC _ y0).mono ?_
             rintro e u1 ⟨v1, rfl, h1, _⟩)
          | (with_reducible refine (kC _ y9).mono ?_
             rintro e u1 ⟨v1, rfl, h1, bC⟩
             have xC := (bC.cell X9.out.2).trans X9.out.1)
          | (refine stepA 22 (te := 9) (u := .string ⟨R.toArray⟩) h1 Try.underlying22 info_str rfl _ _ (by rfl) (by rfl) (by rfl) (by rfl) rfl q2 q1 ?_
             intro gg cap u2 h2)
          | (refine stepG 22 (u := .string ⟨R.toArray⟩) w7.heap.size h1 xC Try.underlying22 info_str rfl _ _ (by rfl) (by rfl) (by rfl) (by rfl) rfl q2 q1 ?_
             intro gg cap u2 h2)
          | (with_reducible refine (kB _ gg cap h2).mono ?_
             rintro e u3 ⟨rfl, b3'⟩
             have h3 := h2.under b3')
          | (with_reducible refine (kT _ h3.below).mono ?_
             rintro e u4 ⟨rfl, b4'⟩
             have h4 := h3.under b4'
             generalize (if c4 = 1 then (some ⟨g4, 0, none⟩ : Option Addr) else some ⟨g4, 1, none⟩) = A5)
          | fail)
    refine hK.out _ _ ?_ (fun hH8 => ?_)
    · (first
        | exact HC.out.1 _ y0
        | exact HC.out.1 _ y9
        | exact HC.out.1 _ h1.below
        | exact HC.out.1 _ (h1.alloc0 _).below
        | exact HC.out.1 _ h2.below
        | exact HC.out.1 _ h3.below
        | exact HC.out.1 _ h4.below
        | fail)
    clear hK K hH7
    try simp only [Act.put, List.setIfInBounds_toArray, List.set_cons_zero, List.set_cons_succ]
    refine wpAnyH_ready (rs := [13]) (by kernel_rfl) (by simp) ?_
    refine AllReadyH.cons (o := ⟨some 90, _, _, _, _, _⟩) rfl (fun K hK => ?_) AllReadyH.nil
    go_simp; (first
          | (with_reducible refine (kC _ y0).mono ?_
             rintro e u1 ⟨v1, rfl, h1, _⟩)
          | (with_reducible refine (kC _ y9).mono ?_
             rintro e u1 ⟨v1, rfl, h1, bC⟩
             have xC := (bC.cell X9.out.2).trans X9.out.1)
          | (refine stepA 22 (te := 9) (u := .string ⟨R.toArray⟩) h1 Try.underlying22 info_str rfl _ _ (by rfl) (by rfl) (by rfl) (by rfl) rfl q2 q1 ?_
             intro gg cap u2 h2)
          | (refine stepG 22 (u := .string ⟨R.toArray⟩) w7.heap.size h1 xC Try.underlying22 info_str rfl _ _ (by rfl) (by rfl) (by rfl) (by rfl) rfl q2 q1 ?_
             intro gg cap u2 h2)
          | (with_reducible refine (kB _ gg cap h2).mono ?_
             rintro e u3 ⟨rfl, b3'⟩
             have h3 := h2.under b3')
          | (with_reducible refine (kT _ h3.below).mono ?_
             rintro e u4 ⟨rfl, b4'⟩
             have h4 := h3.under b4'
             generalize (if c4 = 1 then (some ⟨g4, 0, none⟩ : Option Addr) else some ⟨g4, 1, none⟩) = A5)
          | fail); go_wp2_with fail
    refine hK.out _ _ ?_ (fun hH9 => ?_)
    · (first
        | exact HC.out.1 _ y0
        | exact HC.out.1 _ y9
        | exact HC.out.1 _ h1.below
        | exact HC.out.1 _ (h1.alloc0 _).below
        | exact HC.out.1 _ h2.below
        | exact HC.out.1 _ h3.below
        | exact HC.out.1 _ h4.below
        | fail)
    clear hK K hH8
    try simp only [Act.put, List.setIfInBounds_toArray, List.set_cons_zero, List.set_cons_succ]
    refine wpAnyH_take (i := 14) (oi := ⟨some 91, _, _, _, _, _⟩) (v := ?_) rfl (by kernel_rfl) (by kernel_rfl) (by kernel_rfl) (fun _ _ _ h => h) (Or.inl ⟨by rfl, ?_⟩) hH9 ?_
    rotate_left 1
    · intro w hSw; (try dsimp only at hSw); go_simp; with_reducible rfl
    try simp only [Act.put, List.setIfInBounds_toArray, List.set_cons_zero, List.set_cons_succ]
    refine wpAnyH_take (i := 15) (oi := ⟨some 92, _, _, _, _, _⟩) (v := ?_) rfl (by kernel_rfl) (by kernel_rfl) (by kernel_rfl) (fun _ _ _ h => h) (Or.inl ⟨by rfl, ?_⟩) hH9 ?_
    rotate_left 1
    · intro w hSw; (try dsimp only at hSw); go_simp; with_reducible rfl
    try simp only [Act.put, List.setIfInBounds_toArray, List.set_cons_zero, List.set_cons_succ]
    refine wpAnyH_take (i := 16) (oi := ⟨some 93, _, _, _, _, _⟩) (v := ?_) rfl (by kernel_rfl) (by kernel_rfl) (by kernel_rfl) (fun _ _ _ h => h) (Or.inl ⟨by rfl, ?_⟩) hH9 ?_
    rotate_left 1
    · intro w hSw; (try dsimp only at hSw); go_simp; with_reducible rfl
    try simp only [Act.put, List.setIfInBounds_toArray, List.set_cons_zero, List.set_cons_succ]
    refine wpAnyH_take (i := 17) (oi := ⟨some 94, _, _, _, _, _⟩) (v := ?_) rfl (by kernel_rfl) (by kernel_rfl) (by kernel_rfl) (fun _ _ _ h => h) (Or.inl ⟨by rfl, ?_⟩) hH9 ?_
    rotate_left 1
    · intro w hSw; (try dsimp only at hSw); go_simp; with_reducible rfl
    try simp only [Act.put, List.setIfInBounds_toArray, List.set_cons_zero, List.set_cons_succ]
    refine wpAnyH_take (i := 18) (oi := ⟨some 95, _, _, _, _, _⟩) (v := ?_) rfl (by kernel_rfl) (by kernel_rfl) (by kernel_rfl) (fun _ _ _ h => h) (Or.inl ⟨by rfl, ?_⟩) hH9 ?_
    rotate_left 1
    · intro w hSw; (try dsimp only at hSw); go_simp; with_reducible rfl
    try simp only [Act.put, List.setIfInBounds_toArray, List.set_cons_zero, List.set_cons_succ]
    refine wpAnyH_take (i := 19) (oi := ⟨some 96, _, _, _, _, _⟩) (v := ?_) rfl (by kernel_rfl) (by kernel_rfl) (by kernel_rfl) (fun _ _ _ h => h) (Or.inl ⟨by rfl, ?_⟩) hH9 ?_
    rotate_left 1
    · intro w hSw; (try dsimp only at hSw); go_simp; with_reducible rfl
    try simp only [Act.put, List.setIfInBounds_toArray, List.set_cons_zero, List.set_cons_succ]
    refine wpAnyH_take (i := 20) (oi := ⟨some 97, _, _, _, _, _⟩) (v := ?_) rfl (by kernel_rfl) (by kernel_rfl) (by kernel_rfl) (fun _ _ _ h => h) (Or.inl ⟨by rfl, ?_⟩) hH9 ?_
    rotate_left 1
    · intro w hSw; (try dsimp only at hSw); go_simp; with_reducible rfl
    try simp only [Act.put, List.setIfInBounds_toArray, List.set_cons_zero, List.set_cons_succ]
    refine wpAnyH_take (i := 21) (oi := ⟨some 98, _, _, _, _, _⟩) (v := ?_) rfl (by kernel_rfl) (by kernel_rfl) (by kernel_rfl) (fun _ _ _ h => h) (Or.inl ⟨by rfl, ?_⟩) hH9 ?_
    rotate_left 1
    · intro w hSw; (try dsimp only at hSw); go_simp; with_reducible rfl
    try simp only [Act.put, List.setIfInBounds_toArray, List.set_cons_zero, List.set_cons_succ]
    refine wpAnyH_take (i := 22) (oi := ⟨some 99, _, _, _, _, _⟩) (v := ?_) rfl (by kernel_rfl) (by kernel_rfl) (by kernel_rfl) (fun _ _ _ h => h) (Or.inl ⟨by rfl, ?_⟩) hH9 ?_
    rotate_left 1
    · intro w hSw; (try dsimp only at hSw); go_simp; with_reducible rfl
    try simp only [Act.put, List.setIfInBounds_toArray, List.set_cons_zero, List.set_cons_succ]
    refine wpAnyH_take (i := 23) (oi := ⟨some 100, _, _, _, _, _⟩) (v := ?_) rfl (by kernel_rfl) (by kernel_rfl) (by kernel_rfl) (fun _ _ _ h => h) (Or.inl ⟨by rfl, ?_⟩) hH9 ?_
    rotate_left 1
    · intro w hSw; (try dsimp only at hSw); go_simp; with_reducible rfl
    try simp only [Act.put, List.setIfInBounds_toArray, List.set_cons_zero, List.set_cons_succ]
    refine wpAnyH_take (i := 24) (oi := ⟨some 101, _, _, _, _, _⟩) (v := ?_) rfl (by kernel_rfl) (by kernel_rfl) (by kernel_rfl) (fun _ _ _ h => h) (Or.inl ⟨by rfl, ?_⟩) hH9 ?_
    rotate_left 1
    · intro w hSw; (try dsimp only at hSw); go_simp; with_reducible rfl
    try simp only [Act.put, List.setIfInBounds_toArray, List.set_cons_zero, List.set_cons_succ]
    refine wpAnyH_take (i := 25) (oi := ⟨some 102, _, _, _, _, _⟩) (v := ?_) rfl (by kernel_rfl) (by kernel_rfl) (by kernel_rfl) (fun _ _ _ h => h) (Or.inl ⟨by rfl, ?_⟩) hH9 ?_
    rotate_left 1
    · intro w hSw; (try dsimp only at hSw); go_simp; with_reducible rfl
    try simp only [Act.put, List.setIfInBounds_toArray, List.set_cons_zero, List.set_cons_succ]
    refine wpAnyH_take (i := 26) (oi := ⟨some 103, _, _, _, _, _⟩) (v := ?_) rfl (by kernel_rfl) (by kernel_rfl) (by kernel_rfl) (fun _ _ _ h => h) (Or.inl ⟨by rfl, ?_⟩) hH9 ?_
    rotate_left 1
    · intro w hSw; (try dsimp only at hSw); go_simp; with_reducible rfl
    try simp only [Act.put, List.setIfInBounds_toArray, List.set_cons_zero, List.set_cons_succ]
    refine wpAnyH_take (i := 27) (oi := ⟨some 104, _, _, _, _, _⟩) (v := ?_) rfl (by kernel_rfl) (by kernel_rfl) (by kernel_rfl) (fun _ _ _ h => h) (Or.inl ⟨by rfl, ?_⟩) hH9 ?_
    rotate_left 1
    · intro w hSw; (try dsimp only at hSw); go_simp; with_reducible rfl
    try simp only [Act.put, List.setIfInBounds_toArray, List.set_cons_zero, List.set_cons_succ]
    refine wpAnyH_take (i := 28) (oi := ⟨some 105, _, _, _, _, _⟩) (v := ?_) rfl (by kernel_rfl) (by kernel_rfl) (by kernel_rfl) (fun _ _ _ h => h) (Or.inl ⟨by rfl, ?_⟩) hH9 ?_
    rotate_left 1
    · intro w hSw; (try dsimp only at hSw); go_simp; with_reducible rfl
    try simp only [Act.put, List.setIfInBounds_toArray, List.set_cons_zero, List.set_cons_succ]
    refine wpAnyH_take (i := 29) (oi := ⟨some 106, _, _, _, _, _⟩) (v := ?_) rfl (by kernel_rfl) (by kernel_rfl) (by kernel_rfl) (fun _ _ _ h => h) (Or.inl ⟨by rfl, ?_⟩) hH9 ?_
    rotate_left 1
    · intro w hSw; (try dsimp only at hSw); go_simp; with_reducible rfl
    try simp only [Act.put, List.setIfInBounds_toArray, List.set_cons_zero, List.set_cons_succ]
    refine wpAnyH_ready (rs := [30]) (by kernel_rfl) (by simp) ?_
    refine AllReadyH.cons (o := ⟨some 107, _, _, _, _, _⟩) rfl (fun K hK => ?_) AllReadyH.nil
    go_simp; (first
          | (with_reducible refine (kC _ y0).mono ?_
             rintro e u1 ⟨v1, rfl, h1, _⟩)
          | (with_reducible refine (kC _ y9).mono ?_
             rintro e u1 ⟨v1, rfl, h1, bC⟩
             have xC := (bC.cell X9.out.2).trans X9.out.1)
          | (refine stepA 22 (te := 9) (u := .string ⟨R.toArray⟩) h1 Try.underlying22 info_str rfl _ _ (by rfl) (by rfl) (by rfl) (by rfl) rfl q2 q1 ?_
             intro gg cap u2 h2)
          | (refine stepG 22 (u := .string ⟨R.toArray⟩) w7.heap.size h1 xC Try.underlying22 info_str rfl _ _ (by rfl) (by rfl) (by rfl) (by rfl) rfl q2 q1 ?_
             intro gg cap u2 h2)
          | (with_reducible refine (kB _ gg cap h2).mono ?_
             rintro e u3 ⟨rfl, b3'⟩
             have h3 := h2.under b3')
          | (with_reducible refine (kT _ h3.below).mono ?_
             rintro e u4 ⟨rfl, b4'⟩
             have h4 := h3.under b4'
             generalize (if c4 = 1 then (some ⟨g4, 0, none⟩ : Option Addr) else some ⟨g4, 1, none⟩) = A5)
          | fail); go_wp2_with fail
    refine hK.out _ _ ?_ (fun hH10 => ?_)
    · (first
        | exact HC.out.1 _ y0
        | exact HC.out.1 _ y9
        | exact HC.out.1 _ h1.below
        | exact HC.out.1 _ (h1.alloc0 _).below
        | exact HC.out.1 _ h2.below
        | exact HC.out.1 _ h3.below
        | exact HC.out.1 _ h4.below
        | fail)
    clear hK K hH9
    try simp only [Act.put, List.setIfInBounds_toArray, List.set_cons_zero, List.set_cons_succ]
    refine wpAnyH_take (i := 31) (oi := ⟨some 108, _, _, _, _, _⟩) (v := ?_) rfl (by kernel_rfl) (by kernel_rfl) (by kernel_rfl) (fun _ _ _ h => h) (Or.inl ⟨by rfl, ?_⟩) hH10 ?_
    rotate_left 1
    · intro w hSw; (try dsimp only at hSw); go_simp; with_reducible rfl
    try simp only [Act.put, List.setIfInBounds_toArray, List.set_cons_zero, List.set_cons_succ]
    refine wpAnyH_take (i := 32) (oi := ⟨some 109, _, _, _, _, _⟩) (v := ?_) rfl (by kernel_rfl) (by kernel_rfl) (by kernel_rfl) (fun _ _ _ h => h) (Or.inl ⟨by rfl, ?_⟩) hH10 ?_
    rotate_left 1
    · intro w hSw; (try dsimp only at hSw); go_simp; with_reducible rfl
    try simp only [Act.put, List.setIfInBounds_toArray, List.set_cons_zero, List.set_cons_succ]
    refine wpAnyH_take (i := 33) (oi := ⟨some 110, _, _, _, _, _⟩) (v := ?_) rfl (by kernel_rfl) (by kernel_rfl) (by kernel_rfl) (fun _ _ _ h => h) (Or.inl ⟨by rfl, ?_⟩) hH10 ?_
    rotate_left 1
    · intro w hSw; (try dsimp only at hSw); go_simp; with_reducible rfl
    try simp only [Act.put, List.setIfInBounds_toArray, List.set_cons_zero, List.set_cons_succ]
    refine wpAnyH_take (i := 34) (oi := ⟨some 4, _, _, _, _, _⟩) (v := ?_) rfl (by kernel_rfl) (by kernel_rfl) (by kernel_rfl) (fun _ _ _ h => h) (Or.inl ⟨by rfl, ?_⟩) hH10 ?_
    rotate_left 1
    · intro w hSw; (try dsimp only at hSw); go_simp; with_reducible rfl
    try simp only [Act.put, List.setIfInBounds_toArray, List.set_cons_zero, List.set_cons_succ]
    refine wpAnyH_done (by kernel_rfl) ?_ _
    all_goals (refine NoPanic.normal ?_)
    all_goals
      go_wp2
      go_ret
      exact ⟨rfl, (HB.out.1.below.trans (HB.out.2.mono HB.out.1.size)).trans (h4.below.mono (Nat.le_trans HB.out.1.size HB.out.2.size))⟩
end Go.Proofs.Ytiklfjehhdbhfaa
