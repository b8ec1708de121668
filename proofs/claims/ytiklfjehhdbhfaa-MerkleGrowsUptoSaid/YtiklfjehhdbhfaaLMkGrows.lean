/-
  MerkleGrows: the walk. Conditions: the arguments are small.
-/
import Derived.Test.YtiklfjehhdbhfaaMkR
import Derived.Test.YtiklfjehhdbhfaaStep2
namespace Go.Proofs.Ytiklfjehhdbhfaa
set_option linter.unusedVariables false
open Go.RowKit

theorem fw_peaks {L : List Mk.Str} (h : Mk.AllD L) (hl : L.length ≤ 4096) (k : Nat) (hk : k ≤ L.length) : fwB k (Mk.peaks (L.take k)) = true := by
  have ht : (L.take k).length = k := by rw [List.length_take]; omega
  have hp := Mk.peaks_length (L.take k)
  rw [ht] at hp
  have ho : Mk.ones k ≤ 13 := by have := popF_ones 13 k (by omega); rw [← this]; exact popF_le 13 k
  unfold fwB
  rw [okL (Mk.peaks_dig _ (h.take k)) (by omega), Int.toNat_natCast, hp]
  simp
  omega
theorem ap_peaks {L : List Mk.Str} (h : Mk.AllD L) (hl : L.length ≤ 4095) (k : Nat) (hk : k < L.length) : apB k (Mk.peaks (L.take k)) L[k] = (((k : Int) + 1, Mk.peaks (L.take (k + 1))), 0) := by
  have ht : (L.take k).length = k := by rw [List.length_take]; omega
  have hx : L[k].length = 32 := h _ (List.getElem_mem hk)
  have hg := Mk.grow_peaks L[k] (L.take k)
  rw [ht, ← List.take_succ_eq_append_getElem hk] at hg
  unfold apB
  rw [fw_peaks h (by omega) k (by omega), decide_eq_true hx, Bool.true_and, if_pos rfl, if_neg (by omega), Int.toNat_natCast, hg]
theorem fr_peaks {L : List Mk.Str} (h : Mk.AllD L) (hl : L.length ≤ 4096) (k : Nat) (hk : k ≤ L.length) : frB k (Mk.peaks (L.take k)) = (mRoot (L.take k), 0) := by
  unfold frB
  rw [fw_peaks h hl k hk, if_pos rfl, Mk.rootP_peaks, mRoot_ok (h.take k) (by rw [List.length_take]; omega)]
theorem pk_len (L : List Mk.Str) (k : Nat) (hk : k ≤ L.length) : (Mk.peaks (L.take k)).length = Mk.ones k := by
  have ht : (L.take k).length = k := by rw [List.length_take]; omega
  rw [Mk.peaks_length, ht]
theorem own_nil {w : World} {base : Nat} {e : TypeId} {size n c : Nat} {A : Option Addr} {xs : List Value} (h : w.ownsRow base e size (.slice A n c) n xs) : A = none → n = 0 ∧ c = 0 := fun ha => by
  subst ha
  rcases h.2 with ⟨e1, e2⟩ | ⟨g, cap, cur, e1, _⟩
  · exact ⟨e2, by injection e1⟩
  · cases e1
set_option maxRecDepth 20000 in
set_option maxHeartbeats 4000000 in
theorem merkleGrows_walk (A : Option Addr) (D : List Mk.Str) (c : Nat) (w : World) (hR : Rd w A (strs D)) (hp : weight D ≤ 1073741824) :
    Calls Try.prog 7 #[.slice A D.length c] w fun e w' => e = .returned (.bool true) ∧ Below w.heap.size w w' := by
  have hLl : D.length ≤ 1073741824 := by unfold weight at hp; omega
  have kF := fun W hb => mfew_spec A D c W (hR.below hb) (by omega)
  have kl := fun W hb => leaves_spec A D c W (hR.below hb) hp
  obtain ⟨fb, hfb⟩ : ∃ fb, fewB D = fb := ⟨_, rfl⟩
  rw [hfb] at kF
  have HX := Lib.hid (And.intro hR hp)
  clear hR hp hfb
  go_enter Try.func7, Try.ntmps7
  go_wp2_with fail
  refine (awake_mk _).mono ?_
  rintro e w1 ⟨rfl, b1⟩
  go_wp2_with fail
  refine (kF _ b1).mono ?_
  rintro e w' ⟨rfl, rfl⟩
  cases fb with
  | false =>
    go_wp2
    go_ret
    exact ⟨rfl, b1⟩
  | true =>
  by_cases h40 : D.length > 40
  · have g1 : decide ((D.length : Int) > 40) = true := by simp; omega
    go_wp2
    go_ret
    exact ⟨rfl, b1⟩
  have g1 : decide ((D.length : Int) > 40) = false := by simp; omega
  have hD : Mk.AllD (D.map Mk.leaf) := leaf_dig D
  have hl : (D.map Mk.leaf).length = D.length := List.length_map ..
  generalize D.map Mk.leaf = L at kl hD hl
  have h1 := ((St.nil w).under b1).alloc 34 #[.int .i64 0, .slice none 0 0]
  go_wp2_with fail
  refine (kl _ h1.below).mono ?_
  rintro e w2 ⟨A2, c2, rfl, hc2, hm2, t2⟩
  have h2 := ((h1.join t2).new_own (Below.refl _ w2) (World.ownsRow_nil w2 w2.heap.size 9 1)).pick [2, 0, 1] (by decide) (by simp)
  obtain ⟨N, hN⟩ : ∃ N, L.length = N := ⟨_, rfl⟩
  have hN40 : N ≤ 40 := by omega
  rw [hN] at hc2 ⊢
  have h3 : St w.heap.size w w2 [cellsR w1.heap.size 34 #[.int .i64 ((0 : Nat) : Int), .slice none 0 0], ownR 9 1 (.slice none 0 0) (Mk.ones 0) (strs (Mk.peaks (L.take 0))), ownR 9 1 (.slice A2 N c2) N (strs L)] := by
    rw [List.take_zero, Mk.peaks_nil, Mk.ones_zero]
    rw [← hN]
    exact h2
  have HN := Lib.hid (And.intro hN hD)
  clear h1 h2 t2 kl kF hl hN hD b1
  generalize w1.heap.size = g3 at h3 ⊢
  go_wp2_with fail
  go_loopw [23] (fun i wr => ∃ (k : Nat) (v : Value), k ≤ N ∧ i = .int .i64 k ∧ St w.heap.size w wr [cellsR g3 34 #[.int .i64 k, v], ownR 9 1 v (Mk.ones k) (strs (Mk.peaks (L.take k))), ownR 9 1 (.slice A2 N c2) N (strs L)]) (fun i _ => N - (intOf i).toNat)
  case atStart => exact ⟨0, _, Nat.zero_le _, rfl, h3⟩
  case round =>
    clear h3
    obtain ⟨k, v, hk, rfl, h⟩ := hrel
    by_cases hlt : k < N
    · have hLN := HN.out.1
      have hlk : k < L.length := by omega
      obtain ⟨Ak, ck, rfl, hck, hcm⟩ := own_form (h.swap).own
      have hnil := own_nil (h.swap).own
      have hleaf := (h.pick [2, 0, 1] (by decide) (by simp)).own
      have hblk := h.blk
      obtain ⟨x, hx⟩ : ∃ x, L[k] = x := ⟨_, rfl⟩
      obtain ⟨b, off, hA2, hxc⟩ := (Rd.of_own hleaf).str hlk
      rw [hx] at hxc
      subst hA2
      have hpl := pk_len L k (by omega)
      have hpl2 := pk_len L (k + 1) (by omega)
      have hap := ap_peaks HN.out.2 (by omega) k hlk
      have hfr := fr_peaks HN.out.2 (by omega) (k + 1) (by omega)
      have htk : (L.take (k + 1)).length = k + 1 := by rw [List.length_take]; omega
      rw [hx] at hap
      have kA : ∀ W, Below wr.heap.size wr W → Calls Try.prog 22 #[.agg #[.int .i64 (k : Int), .slice Ak (Mk.ones k) ck], .string ⟨x.toArray⟩] W fun e w' => ∃ v', e = .returned (.tuple #[.agg #[.int .i64 ((k : Int) + 1), v'], .int .i64 0]) ∧ St W.heap.size W w' [ownR 9 1 v' (Mk.ones (k + 1)) (strs (Mk.peaks (L.take (k + 1))))] := fun W hb => by
        have := append_spec (k : Int) Ak (Mk.peaks (L.take k)) ck x W ((Rd.of_own (h.swap).own).below hb) (by rw [hpl]; exact hnil) (by have := popF_ones 13 k (by omega); have := popF_le 13 k; omega) (by omega) (by omega) (by omega)
        rw [hap, hpl] at this
        unfold ApP at this
        simp only [hpl2] at this
        exact this
      have kF : ∀ W A' c', Rd W A' (strs (Mk.peaks (L.take (k + 1)))) → Mk.ones (k + 1) ≤ c' → Calls Try.prog 24 #[.agg #[.int .i64 ((k : Int) + 1), .slice A' (Mk.ones (k + 1)) c']] W fun e w' => e = .returned (.tuple #[.string ⟨(mRoot (L.take (k + 1))).toArray⟩, .int .i64 0]) ∧ Below W.heap.size W w' := fun W A' c' hr hc' => by
        have := froot_spec ((k + 1 : Nat) : Int) A' (Mk.peaks (L.take (k + 1))) c' W hr (by have := popF_ones 13 (k + 1) (by omega); have := popF_le 13 (k + 1); omega) (by omega) (by omega) (by omega)
        rw [hfr, hpl2] at this
        exact this
      have kR : ∀ W, Rd W (some ⟨b, off, none⟩) (strs L) → Calls Try.prog 19 #[.slice (some ⟨b, off, none⟩) (k + 1) c2] W fun e w' => e = .returned (.string ⟨(mRoot (L.take (k + 1))).toArray⟩) ∧ Below W.heap.size W w' := fun W hr => by
        have := root_mk (some ⟨b, off, none⟩) (L.take (k + 1)) c2 W (rd_take hr (k + 1)) (by omega) (by omega) hm2
        rw [htk] at this
        exact this
      have kO : ∀ W, Calls Try.prog 31 #[.int .u64 ((k : Int) + 1)] W fun e w' => e = .returned (.int .i64 ((Mk.ones (k + 1) : Nat) : Int)) ∧ W = w' := fun W => ones_spec (k + 1) (by omega) W
      have hcell : ∀ W, Below wr.heap.size wr W → W.cell? ⟨g3, 0, none⟩ = some (.int .i64 (k : Int)) ∧ W.cell? ⟨g3, 1, none⟩ = some (.slice Ak (Mk.ones k) ck) ∧ W.cell? ⟨b, off + k, none⟩ = some (.string ⟨x.toArray⟩) := fun W hb =>
        ⟨below_cell hb (hblk.cell 0), below_cell hb (hblk.cell 1), below_cell hb hxc⟩
      have i0 : (0 : Int) ≤ (k : Int) := by omega
      have i1 : (k : Int) < (N : Int) := by omega
      have i2 : (k : Int) + 1 ≤ (c2 : Int) := by omega
      have i3 : (0 : Int) ≤ (k : Int) + 1 := by omega
      generalize mRoot (L.take (k + 1)) = R at kF kR
      obtain ⟨q, hq⟩ : ∃ q, Mk.ones k = q := ⟨_, rfl⟩
      obtain ⟨q', hq'⟩ : ∃ q', Mk.ones (k + 1) = q' := ⟨_, rfl⟩
      rw [hq] at kA hcell hck hnil h
      rw [hq'] at kA kF kO
      have HQ := Lib.hid (And.intro hq hq')
      have HC := Lib.hid (And.intro hcell h)
      have y0 := (Below.refl wr.heap.size wr).drew
      have y9 := ((Below.refl wr.heap.size wr).alloc (Nat.le_refl _) (.cells #[.int .i64 0, .slice none 0 0] 34)).drew
      have bl9 : Blk (wr.alloc (.cells #[.int .i64 0, .slice none 0 0] 34)).drew wr.heap.size 34 #[.int .i64 0, .slice none 0 0] := Blk.new wr _ _
      have B9 := Lib.hid bl9
      clear hLN hlk hq hq' hcell hpl hpl2 hap hfr htk hblk hxc hleaf hx bl9 h hnil
      go_wp2_with fail
      refine wp_region_noPanic ?_
      refine wp_region_held_drew (S := (fun w' => w'.cell? ⟨g3, 0, none⟩ = some (.int .i64 (k : Int)) ∧ w'.cell? ⟨g3, 1, none⟩ = some (.slice Ak q ck) ∧ w'.cell? ⟨b, off + k, none⟩ = some (.string ⟨x.toArray⟩))) (by kernel_rfl) ?_ (fun hH0 => ?_)
      · (first
          | exact HC.out.1 _ y0
          | exact HC.out.1 _ y9
          | exact HC.out.1 _ y4
          | exact HC.out.1 _ (y4.alloc y4.size _)
          | exact HC.out.1 _ ((y4.setCell (p := ⟨wr.heap.size, 0, none⟩) (Nat.le_refl _) _).setCell (p := ⟨wr.heap.size, 1, none⟩) (Nat.le_refl _) _)
          | fail)
      refine wpAnyH_take (i := 0) (oi := ⟨some 27, _, _, _, _, _⟩) (v := ?_) rfl (by kernel_rfl) (by kernel_rfl) (by kernel_rfl) (fun _ _ _ h => h) (Or.inl ⟨by rfl, ?_⟩) hH0 ?_
      rotate_left 1
      · intro w hSw; (try dsimp only at hSw); go_simp; with_reducible rfl
      try simp only [Act.put, List.setIfInBounds_toArray, List.set_cons_zero, List.set_cons_succ]
      refine wpAnyH_take (i := 1) (oi := ⟨some 28, _, _, _, _, _⟩) (v := ?_) rfl (by kernel_rfl) (by kernel_rfl) (by kernel_rfl) (fun _ _ _ h => h) (Or.inl ⟨by rfl, ?_⟩) hH0 ?_
      rotate_left 1
      · intro w hSw; (try dsimp only at hSw); go_simp; with_reducible rfl
      try simp only [Act.put, List.setIfInBounds_toArray, List.set_cons_zero, List.set_cons_succ]
      refine wpAnyH_take (i := 2) (oi := ⟨some 29, _, _, _, _, _⟩) (v := ?_) rfl (by kernel_rfl) (by kernel_rfl) (by kernel_rfl) (fun _ _ _ h => h) (Or.inl ⟨by rfl, ?_⟩) hH0 ?_
      rotate_left 1
      · intro w hSw; (try dsimp only at hSw); go_simp; with_reducible rfl
      try simp only [Act.put, List.setIfInBounds_toArray, List.set_cons_zero, List.set_cons_succ]
      refine wpAnyH_take (i := 3) (oi := ⟨some 30, _, _, _, _, _⟩) (v := ?_) rfl (by kernel_rfl) (by kernel_rfl) (by kernel_rfl) (fun _ _ _ h => h) (Or.inl ⟨by rfl, ?_⟩) hH0 ?_
      rotate_left 1
      · intro w hSw; (try dsimp only at hSw); go_simp; with_reducible rfl
      try simp only [Act.put, List.setIfInBounds_toArray, List.set_cons_zero, List.set_cons_succ]
      refine wpAnyH_take (i := 4) (oi := ⟨some 31, _, _, _, _, _⟩) (v := ?_) rfl (by kernel_rfl) (by kernel_rfl) (by kernel_rfl) (fun _ _ _ h => h) (Or.inl ⟨by rfl, ?_⟩) hH0 ?_
      rotate_left 1
      · intro w hSw; (try dsimp only at hSw); go_simp; with_reducible rfl
      try simp only [Act.put, List.setIfInBounds_toArray, List.set_cons_zero, List.set_cons_succ]
      refine wpAnyH_ready (rs := [5, 9]) (by kernel_rfl) (by simp) ?_
      refine AllReadyH.cons (o := ⟨some 32, _, _, _, _, _⟩) rfl (fun K hK => ?_) ?_
      go_simp; (first
            | (with_reducible refine (kA _ y0).mono ?_
               rintro e w4 ⟨v', rfl, t4⟩
               obtain ⟨A', c', rfl, hc', hm'⟩ := own_form t4.own
               have y4 := y0.trans (t4.below.mono y0.size))
            | (with_reducible refine (kA _ y9).mono ?_
               rintro e w4 ⟨v', rfl, t4⟩
               obtain ⟨A', c', rfl, hc', hm'⟩ := own_form t4.own
               have y4 := y9.trans (t4.below.mono y9.size)
               have bl4 := B9.out.below t4.below
               have e40 := bl4.cell 0
               have e41 := bl4.cell 1
               have e42 := bl4.frozen 0
               have e43 := bl4.frozen 1)
            | fail); go_wp2_with fail
      refine hK.out _ _ ?_ (fun hH1 => ?_)
      · (first
          | exact HC.out.1 _ y0
          | exact HC.out.1 _ y9
          | exact HC.out.1 _ y4
          | exact HC.out.1 _ (y4.alloc y4.size _)
          | exact HC.out.1 _ ((y4.setCell (p := ⟨wr.heap.size, 0, none⟩) (Nat.le_refl _) _).setCell (p := ⟨wr.heap.size, 1, none⟩) (Nat.le_refl _) _)
          | fail)
      clear hK K hH0
      try simp only [Act.put, List.setIfInBounds_toArray, List.set_cons_zero, List.set_cons_succ]
      refine wpAnyH_take (i := 6) (oi := ⟨some 26, _, _, _, _, _⟩) (v := ?_) rfl (by kernel_rfl) (by kernel_rfl) (by kernel_rfl) (fun _ _ _ h => h) (Or.inl ⟨by rfl, ?_⟩) hH1 ?_
      rotate_left 1
      · intro w hSw; (try dsimp only at hSw); go_simp; with_reducible rfl
      try simp only [Act.put, List.setIfInBounds_toArray, List.set_cons_zero, List.set_cons_succ]
      refine wpAnyH_take (i := 7) (oi := ⟨some 33, _, _, _, _, _⟩) (v := ?_) rfl (by kernel_rfl) (by kernel_rfl) (by kernel_rfl) (fun _ _ _ h => h) (Or.inl ⟨by rfl, ?_⟩) hH1 ?_
      rotate_left 1
      · intro w hSw; (try dsimp only at hSw); go_simp; with_reducible rfl
      try simp only [Act.put, List.setIfInBounds_toArray, List.set_cons_zero, List.set_cons_succ]
      refine wpAnyH_take (i := 8) (oi := ⟨some 34, _, _, _, _, _⟩) (v := ?_) rfl (by kernel_rfl) (by kernel_rfl) (by kernel_rfl) (fun _ _ _ h => h) (Or.inl ⟨by rfl, ?_⟩) hH1 ?_
      rotate_left 1
      · intro w hSw; (try dsimp only at hSw); go_simp; with_reducible rfl
      try simp only [Act.put, List.setIfInBounds_toArray, List.set_cons_zero, List.set_cons_succ]
      refine wpAnyH_ready (rs := [9]) (by kernel_rfl) (by simp) ?_
      refine AllReadyH.cons (o := ⟨some 6, _, _, _, _, _⟩) rfl (fun K hK => ?_) AllReadyH.nil
      go_simp
      refine hK.out _ _ ?_ (fun hH2 => ?_)
      · (first
          | exact HC.out.1 _ y0
          | exact HC.out.1 _ y9
          | exact HC.out.1 _ y4
          | exact HC.out.1 _ (y4.alloc y4.size _)
          | exact HC.out.1 _ ((y4.setCell (p := ⟨wr.heap.size, 0, none⟩) (Nat.le_refl _) _).setCell (p := ⟨wr.heap.size, 1, none⟩) (Nat.le_refl _) _)
          | fail)
      clear hK K hH1
      try simp only [Act.put, List.setIfInBounds_toArray, List.set_cons_zero, List.set_cons_succ]
      refine wpAnyH_ready (rs := [10]) (by kernel_rfl) (by simp) ?_
      refine AllReadyH.cons (o := ⟨_, _, _, _, _, _⟩) rfl (fun K hK => ?_) AllReadyH.nil
      go_simp
      refine hK.out _ _ ?_ (fun hH3 => ?_)
      · (first
          | exact HC.out.1 _ y0
          | exact HC.out.1 _ y9
          | exact HC.out.1 _ y4
          | exact HC.out.1 _ (y4.alloc y4.size _)
          | exact HC.out.1 _ ((y4.setCell (p := ⟨wr.heap.size, 0, none⟩) (Nat.le_refl _) _).setCell (p := ⟨wr.heap.size, 1, none⟩) (Nat.le_refl _) _)
          | fail)
      clear hK K hH2
      try simp only [Act.put, List.setIfInBounds_toArray, List.set_cons_zero, List.set_cons_succ]
      refine wpAnyH_take (i := 11) (oi := ⟨some 7, _, _, _, _, _⟩) (v := ?_) rfl (by kernel_rfl) (by kernel_rfl) (by kernel_rfl) (fun _ _ _ h => h) (Or.inl ⟨by rfl, ?_⟩) hH3 ?_
      rotate_left 1
      · intro w hSw; (try dsimp only at hSw); go_simp; with_reducible rfl
      try simp only [Act.put, List.setIfInBounds_toArray, List.set_cons_zero, List.set_cons_succ]
      refine wpAnyH_done (by kernel_rfl) ?_ _
      rotate_left 1
      refine AllReadyH.cons (o := ⟨some 6, _, _, _, _, _⟩) rfl (fun K hK => ?_) AllReadyH.nil
      go_simp
      refine hK.out _ _ ?_ (fun hH4 => ?_)
      · (first
          | exact HC.out.1 _ y0
          | exact HC.out.1 _ y9
          | exact HC.out.1 _ y4
          | exact HC.out.1 _ (y4.alloc y4.size _)
          | exact HC.out.1 _ ((y4.setCell (p := ⟨wr.heap.size, 0, none⟩) (Nat.le_refl _) _).setCell (p := ⟨wr.heap.size, 1, none⟩) (Nat.le_refl _) _)
          | fail)
      clear hK K hH0
      try simp only [Act.put, List.setIfInBounds_toArray, List.set_cons_zero, List.set_cons_succ]
      refine wpAnyH_ready (rs := [5]) (by kernel_rfl) (by simp) ?_
      refine AllReadyH.cons (o := ⟨some 32, _, _, _, _, _⟩) rfl (fun K hK => ?_) AllReadyH.nil
      go_simp; (first
            | (with_reducible refine (kA _ y0).mono ?_
               rintro e w4 ⟨v', rfl, t4⟩
               obtain ⟨A', c', rfl, hc', hm'⟩ := own_form t4.own
               have y4 := y0.trans (t4.below.mono y0.size))
            | (with_reducible refine (kA _ y9).mono ?_
               rintro e w4 ⟨v', rfl, t4⟩
               obtain ⟨A', c', rfl, hc', hm'⟩ := own_form t4.own
               have y4 := y9.trans (t4.below.mono y9.size)
               have bl4 := B9.out.below t4.below
               have e40 := bl4.cell 0
               have e41 := bl4.cell 1
               have e42 := bl4.frozen 0
               have e43 := bl4.frozen 1)
            | fail); go_wp2_with fail
      refine hK.out _ _ ?_ (fun hH5 => ?_)
      · (first
          | exact HC.out.1 _ y0
          | exact HC.out.1 _ y9
          | exact HC.out.1 _ y4
          | exact HC.out.1 _ (y4.alloc y4.size _)
          | exact HC.out.1 _ ((y4.setCell (p := ⟨wr.heap.size, 0, none⟩) (Nat.le_refl _) _).setCell (p := ⟨wr.heap.size, 1, none⟩) (Nat.le_refl _) _)
          | fail)
      clear hK K hH4
      try simp only [Act.put, List.setIfInBounds_toArray, List.set_cons_zero, List.set_cons_succ]
      refine wpAnyH_take (i := 6) (oi := ⟨some 26, _, _, _, _, _⟩) (v := ?_) rfl (by kernel_rfl) (by kernel_rfl) (by kernel_rfl) (fun _ _ _ h => h) (Or.inl ⟨by rfl, ?_⟩) hH5 ?_
      rotate_left 1
      · intro w hSw; (try dsimp only at hSw); go_simp; with_reducible rfl
      try simp only [Act.put, List.setIfInBounds_toArray, List.set_cons_zero, List.set_cons_succ]
      refine wpAnyH_take (i := 7) (oi := ⟨some 33, _, _, _, _, _⟩) (v := ?_) rfl (by kernel_rfl) (by kernel_rfl) (by kernel_rfl) (fun _ _ _ h => h) (Or.inl ⟨by rfl, ?_⟩) hH5 ?_
      rotate_left 1
      · intro w hSw; (try dsimp only at hSw); go_simp; with_reducible rfl
      try simp only [Act.put, List.setIfInBounds_toArray, List.set_cons_zero, List.set_cons_succ]
      refine wpAnyH_take (i := 8) (oi := ⟨some 34, _, _, _, _, _⟩) (v := ?_) rfl (by kernel_rfl) (by kernel_rfl) (by kernel_rfl) (fun _ _ _ h => h) (Or.inl ⟨by rfl, ?_⟩) hH5 ?_
      rotate_left 1
      · intro w hSw; (try dsimp only at hSw); go_simp; with_reducible rfl
      try simp only [Act.put, List.setIfInBounds_toArray, List.set_cons_zero, List.set_cons_succ]
      refine wpAnyH_ready (rs := [10]) (by kernel_rfl) (by simp) ?_
      refine AllReadyH.cons (o := ⟨_, _, _, _, _, _⟩) rfl (fun K hK => ?_) AllReadyH.nil
      go_simp
      refine hK.out _ _ ?_ (fun hH6 => ?_)
      · (first
          | exact HC.out.1 _ y0
          | exact HC.out.1 _ y9
          | exact HC.out.1 _ y4
          | exact HC.out.1 _ (y4.alloc y4.size _)
          | exact HC.out.1 _ ((y4.setCell (p := ⟨wr.heap.size, 0, none⟩) (Nat.le_refl _) _).setCell (p := ⟨wr.heap.size, 1, none⟩) (Nat.le_refl _) _)
          | fail)
      clear hK K hH5
      try simp only [Act.put, List.setIfInBounds_toArray, List.set_cons_zero, List.set_cons_succ]
      refine wpAnyH_take (i := 11) (oi := ⟨some 7, _, _, _, _, _⟩) (v := ?_) rfl (by kernel_rfl) (by kernel_rfl) (by kernel_rfl) (fun _ _ _ h => h) (Or.inl ⟨by rfl, ?_⟩) hH6 ?_
      rotate_left 1
      · intro w hSw; (try dsimp only at hSw); go_simp; with_reducible rfl
      try simp only [Act.put, List.setIfInBounds_toArray, List.set_cons_zero, List.set_cons_succ]
      refine wpAnyH_done (by kernel_rfl) ?_ _
      all_goals (refine NoPanic.normal ?_)
      all_goals
        first
          | (have hz := (((HC.out.2.drew).join t4).alloc 34 #[.int .i64 ((k : Int) + 1), .slice A' q' c']).pick [0, 2, 1, 4] (by decide) (by simp)
             generalize w4.alloc (.cells #[.int .i64 ((k : Int) + 1), .slice A' q' c'] 34) = W5 at hz ⊢
             generalize w4.heap.size = b6 at hz ⊢)
          | (have hz := (((((HC.out.2.alloc 34 #[.int .i64 0, .slice none 0 0]).drew).join t4).pick [1, 2, 0, 4] (by decide) (by simp)).set_ 0 (.int .i64 ((k : Int) + 1))).set_ 1 (.slice A' q' c')
             clear e40 e41 e42 e43 bl4
             generalize (w4.setCell ⟨wr.heap.size, 0, none⟩ (.int .i64 ((k : Int) + 1))).setCell ⟨wr.heap.size, 1, none⟩ (.slice A' q' c') = W5 at hz ⊢
             generalize wr.heap.size = b6 at hz ⊢)
        have hz6 : St w.heap.size w W5.drew [cellsR b6 34 #[.int .i64 ((k : Int) + 1), .slice A' q' c'], cellsR g3 34 #[.int .i64 (k : Int), .slice Ak q ck], ownR 9 1 (.slice A' q' c') q' (strs (Mk.peaks (L.take (k + 1)))), ownR 9 1 (.slice (some ⟨b, off, none⟩) N c2) N (strs L)] := hz.drew
        clear hz y0 y9 y4 t4 kA HC B9
        have p0 := hz6.blk.cell 0
        have p1 := hz6.blk.cell 1
        simp only [List.getElem?_toArray, List.getElem?_cons_zero, List.getElem?_cons_succ] at p0 p1
        have HZ := Lib.hid hz6
        clear hz6
        have ww1 : IntKind.i64.wrap ((k : Int) + 1) = (k : Int) + 1 := by rw [IntKind.wrap_i64]; omega
        have ww2 : IntKind.u64.wrap ((k : Int) + 1) = (k : Int) + 1 := by rw [IntKind.wrap_u64]; omega
        have ww3 : (((k : Int) + 1) != ((k : Int) + 1)) = false := by simp
        have ww4 : ((q' : Int) != (q' : Int)) = false := by simp
        go_wp2_with fail
        refine wp_region_noPanic ?_
        refine wp_region_held_drew (S := (fun w' => w'.cell? ⟨b6, 0, none⟩ = some (.int .i64 ((k : Int) + 1)) ∧ w'.cell? ⟨b6, 1, none⟩ = some (.slice A' q' c'))) (by kernel_rfl) ?_ (fun hH0 => ?_)
        · (exact ⟨p0, p1⟩)
        refine wpAnyH_take (i := 0) (oi := ⟨some 35, _, _, _, _, _⟩) (v := ?_) rfl (by kernel_rfl) (by kernel_rfl) (by kernel_rfl) (fun _ _ _ h => h) (Or.inl ⟨by rfl, ?_⟩) hH0 ?_
        rotate_left 1
        · intro w hSw; (try dsimp only at hSw); go_simp; with_reducible rfl
        try simp only [Act.put, List.setIfInBounds_toArray, List.set_cons_zero, List.set_cons_succ]
        refine wpAnyH_take (i := 1) (oi := ⟨some 36, _, _, _, _, _⟩) (v := ?_) rfl (by kernel_rfl) (by kernel_rfl) (by kernel_rfl) (fun _ _ _ h => h) (Or.inl ⟨by rfl, ?_⟩) hH0 ?_
        rotate_left 1
        · intro w hSw; (try dsimp only at hSw); go_simp; with_reducible rfl
        try simp only [Act.put, List.setIfInBounds_toArray, List.set_cons_zero, List.set_cons_succ]
        refine wpAnyH_take (i := 2) (oi := ⟨some 37, _, _, _, _, _⟩) (v := ?_) rfl (by kernel_rfl) (by kernel_rfl) (by kernel_rfl) (fun _ _ _ h => h) (Or.inl ⟨by rfl, ?_⟩) hH0 ?_
        rotate_left 1
        · intro w hSw; (try dsimp only at hSw); go_simp; with_reducible rfl
        try simp only [Act.put, List.setIfInBounds_toArray, List.set_cons_zero, List.set_cons_succ]
        refine wpAnyH_take (i := 3) (oi := ⟨some 38, _, _, _, _, _⟩) (v := ?_) rfl (by kernel_rfl) (by kernel_rfl) (by kernel_rfl) (fun _ _ _ h => h) (Or.inl ⟨by rfl, ?_⟩) hH0 ?_
        rotate_left 1
        · intro w hSw; (try dsimp only at hSw); go_simp; with_reducible rfl
        try simp only [Act.put, List.setIfInBounds_toArray, List.set_cons_zero, List.set_cons_succ]
        refine wpAnyH_take (i := 4) (oi := ⟨some 39, _, _, _, _, _⟩) (v := ?_) rfl (by kernel_rfl) (by kernel_rfl) (by kernel_rfl) (fun _ _ _ h => h) (Or.inl ⟨by rfl, ?_⟩) hH0 ?_
        rotate_left 1
        · intro w hSw; (try dsimp only at hSw); go_simp; with_reducible rfl
        try simp only [Act.put, List.setIfInBounds_toArray, List.set_cons_zero, List.set_cons_succ]
        refine wpAnyH_take (i := 5) (oi := ⟨some 40, _, _, _, _, _⟩) (v := ?_) rfl (by kernel_rfl) (by kernel_rfl) (by kernel_rfl) (fun _ _ _ h => h) (Or.inl ⟨by rfl, ?_⟩) hH0 ?_
        rotate_left 1
        · intro w hSw; (try dsimp only at hSw); go_simp; with_reducible rfl
        try simp only [Act.put, List.setIfInBounds_toArray, List.set_cons_zero, List.set_cons_succ]
        refine wpAnyH_take (i := 6) (oi := ⟨some 41, _, _, _, _, _⟩) (v := ?_) rfl (by kernel_rfl) (by kernel_rfl) (by kernel_rfl) (fun _ _ _ h => h) (Or.inl ⟨by rfl, ?_⟩) hH0 ?_
        rotate_left 1
        · intro w hSw; (try dsimp only at hSw); go_simp; with_reducible rfl
        try simp only [Act.put, List.setIfInBounds_toArray, List.set_cons_zero, List.set_cons_succ]
        refine wpAnyH_take (i := 7) (oi := ⟨some 42, _, _, _, _, _⟩) (v := ?_) rfl (by kernel_rfl) (by kernel_rfl) (by kernel_rfl) (fun _ _ _ h => h) (Or.inl ⟨by rfl, ?_⟩) hH0 ?_
        rotate_left 1
        · intro w hSw; (try dsimp only at hSw); go_simp; with_reducible rfl
        try simp only [Act.put, List.setIfInBounds_toArray, List.set_cons_zero, List.set_cons_succ]
        refine wpAnyH_take (i := 8) (oi := ⟨some 43, _, _, _, _, _⟩) (v := ?_) rfl (by kernel_rfl) (by kernel_rfl) (by kernel_rfl) (fun _ _ _ h => h) (Or.inl ⟨by rfl, ?_⟩) hH0 ?_
        rotate_left 1
        · intro w hSw; (try dsimp only at hSw); go_simp; with_reducible rfl
        try simp only [Act.put, List.setIfInBounds_toArray, List.set_cons_zero, List.set_cons_succ]
        refine wpAnyH_take (i := 9) (oi := ⟨some 44, _, _, _, _, _⟩) (v := ?_) rfl (by kernel_rfl) (by kernel_rfl) (by kernel_rfl) (fun _ _ _ h => h) (Or.inl ⟨by rfl, ?_⟩) hH0 ?_
        rotate_left 1
        · intro w hSw; (try dsimp only at hSw); go_simp; with_reducible rfl
        try simp only [Act.put, List.setIfInBounds_toArray, List.set_cons_zero, List.set_cons_succ]
        refine wpAnyH_take (i := 10) (oi := ⟨some 45, _, _, _, _, _⟩) (v := ?_) rfl (by kernel_rfl) (by kernel_rfl) (by kernel_rfl) (fun _ _ _ h => h) (Or.inl ⟨by rfl, ?_⟩) hH0 ?_
        rotate_left 1
        · intro w hSw; (try dsimp only at hSw); go_simp; with_reducible rfl
        try simp only [Act.put, List.setIfInBounds_toArray, List.set_cons_zero, List.set_cons_succ]
        refine wpAnyH_take (i := 11) (oi := ⟨some 46, _, _, _, _, _⟩) (v := ?_) rfl (by kernel_rfl) (by kernel_rfl) (by kernel_rfl) (fun _ _ _ h => h) (Or.inl ⟨by rfl, ?_⟩) hH0 ?_
        rotate_left 1
        · intro w hSw; (try dsimp only at hSw); go_simp; with_reducible rfl
        try simp only [Act.put, List.setIfInBounds_toArray, List.set_cons_zero, List.set_cons_succ]
        refine wpAnyH_take (i := 12) (oi := ⟨some 47, _, _, _, _, _⟩) (v := ?_) rfl (by kernel_rfl) (by kernel_rfl) (by kernel_rfl) (fun _ _ _ h => h) (Or.inl ⟨by rfl, ?_⟩) hH0 ?_
        rotate_left 1
        · intro w hSw; (try dsimp only at hSw); go_simp; with_reducible rfl
        try simp only [Act.put, List.setIfInBounds_toArray, List.set_cons_zero, List.set_cons_succ]
        refine wpAnyH_take (i := 13) (oi := ⟨some 48, _, _, _, _, _⟩) (v := ?_) rfl (by kernel_rfl) (by kernel_rfl) (by kernel_rfl) (fun _ _ _ h => h) (Or.inl ⟨by rfl, ?_⟩) hH0 ?_
        rotate_left 1
        · intro w hSw; (try dsimp only at hSw); go_simp; with_reducible rfl
        try simp only [Act.put, List.setIfInBounds_toArray, List.set_cons_zero, List.set_cons_succ]
        refine wpAnyH_take (i := 14) (oi := ⟨some 49, _, _, _, _, _⟩) (v := ?_) rfl (by kernel_rfl) (by kernel_rfl) (by kernel_rfl) (fun _ _ _ h => h) (Or.inl ⟨by rfl, ?_⟩) hH0 ?_
        rotate_left 1
        · intro w hSw; (try dsimp only at hSw); go_simp; with_reducible rfl
        try simp only [Act.put, List.setIfInBounds_toArray, List.set_cons_zero, List.set_cons_succ]
        refine wpAnyH_take (i := 15) (oi := ⟨some 50, _, _, _, _, _⟩) (v := ?_) rfl (by kernel_rfl) (by kernel_rfl) (by kernel_rfl) (fun _ _ _ h => h) (Or.inl ⟨by rfl, ?_⟩) hH0 ?_
        rotate_left 1
        · intro w hSw; (try dsimp only at hSw); go_simp; with_reducible rfl
        try simp only [Act.put, List.setIfInBounds_toArray, List.set_cons_zero, List.set_cons_succ]
        refine wpAnyH_ready (rs := [16]) (by kernel_rfl) (by simp) ?_
        refine AllReadyH.cons (o := ⟨some 51, _, _, _, _, _⟩) rfl (fun K hK => ?_) AllReadyH.nil
        go_simp; (first
              | (with_reducible refine (kO _).mono ?_
                 rintro e w5 ⟨rfl, rfl⟩)
              | fail); go_wp2_with fail
        refine hK.out _ _ ?_ (fun hH1 => ?_)
        · (exact ⟨p0, p1⟩)
        clear hK K hH0
        try simp only [Act.put, List.setIfInBounds_toArray, List.set_cons_zero, List.set_cons_succ]
        refine wpAnyH_take (i := 17) (oi := ⟨some 52, _, _, _, _, _⟩) (v := ?_) rfl (by kernel_rfl) (by kernel_rfl) (by kernel_rfl) (fun _ _ _ h => h) (Or.inl ⟨by rfl, ?_⟩) hH1 ?_
        rotate_left 1
        · intro w hSw; (try dsimp only at hSw); go_simp; with_reducible rfl
        try simp only [Act.put, List.setIfInBounds_toArray, List.set_cons_zero, List.set_cons_succ]
        refine wpAnyH_take (i := 18) (oi := ⟨some 53, _, _, _, _, _⟩) (v := ?_) rfl (by kernel_rfl) (by kernel_rfl) (by kernel_rfl) (fun _ _ _ h => h) (Or.inl ⟨by rfl, ?_⟩) hH1 ?_
        rotate_left 1
        · intro w hSw; (try dsimp only at hSw); go_simp; with_reducible rfl
        try simp only [Act.put, List.setIfInBounds_toArray, List.set_cons_zero, List.set_cons_succ]
        refine wpAnyH_done (by kernel_rfl) ?_ _
        all_goals (refine NoPanic.normal ?_)
        have hz7 := HZ.out
        clear ww1 ww2 ww3 ww4
        generalize W5.drew = W6 at hz7 p0 p1 ⊢
        have r0 := hz7.swap.blk.cell 0
        have r1 := hz7.swap.blk.cell 1
        have f0 := hz7.swap.blk.frozen 0
        have f1 := hz7.swap.blk.frozen 1
        have bk := mk_store W6 g3 (.int .i64 ((k : Int) + 1)) (.slice A' q' c') _ _ hz7.swap.blk rfl
        have e0 := bk.cell 0
        have e1 := bk.cell 1
        simp only [List.getElem?_toArray, List.getElem?_cons_zero, List.getElem?_cons_succ] at r0 r1 e0 e1
        have h8 : St w.heap.size w ((W6.setCell ⟨g3, 0, none⟩ (.int .i64 ((k : Int) + 1))).setCell ⟨g3, 1, none⟩ (.slice A' q' c')) [cellsR g3 34 #[.int .i64 ((k : Int) + 1), .slice A' q' c'], ownR 9 1 (.slice A' q' c') q' (strs (Mk.peaks (L.take (k + 1)))), ownR 9 1 (.slice (some ⟨b, off, none⟩) N c2) N (strs L)] :=
          ((hz7.swap.set_ 0 (.int .i64 ((k : Int) + 1))).set_ 1 (.slice A' q' c')).pick [0, 2, 3] (by decide) (by simp)
        have kF' := kF _ A' c' (Rd.of_own (h8.swap).own) hc'
        have H8 := Lib.hid h8
        clear hz7 bk h8 kF
        go_wp2_with fail
        refine kF'.mono ?_
        rintro e w9 ⟨rfl, b9⟩
        have h9 := H8.out.under b9
        have kR' := kR w9 (Rd.of_own ((h9.pick [2, 0, 1] (by decide) (by simp)).own))
        have H9 := Lib.hid h9
        clear h9 kR b9 e0 e1 f0 f1 r0 r1 p0 p1 kF'
        go_wp2_with fail
        refine kR'.mono ?_
        rintro e wA ⟨rfl, bA⟩
        have hA := Lib.hid (H9.out.under bA)
        clear kR' bA
        go_wp2
        go_roundw
        case rel => exact ⟨k + 1, .slice A' q' c', by omega, by go_num, by rw [HQ.out.2]; exact hA.out⟩
        case measure => simp [intOf]; omega
    · obtain rfl : k = N := by omega
      go_wp2
      go_ret
      exact ⟨rfl, h.below⟩
end Go.Proofs.Ytiklfjehhdbhfaa
