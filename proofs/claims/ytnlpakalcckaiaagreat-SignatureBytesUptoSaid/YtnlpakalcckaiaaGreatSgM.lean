/-
  The reference's public keys and the keys that it skips. Conditions: seeds of at most 2^30 bytes.
-/
import Derived.Test.YtnlpakalcckaiaaGreatSgL
namespace Go.Proofs.YtnlpakalcckaiaaGreat
set_option linter.unusedVariables false
open Go.RowKit Go.Shelf
attribute [local go_sem] Oper.semAt_some

theorem validB_zero (seed : Sg.Str) (h : Int) : validB seed h 0 = treeB seed h := by
  unfold validB
  rw [decide_eq_true (Int.le_refl 0), decide_eq_true (Int.natCast_nonneg _), Bool.and_self, Bool.and_true]
set_option maxRecDepth 20000 in
set_option maxHeartbeats 4000000 in
theorem rpublic_spec (seed : Sg.Str) (h n : Int) (w : World) (hs : seed.length ≤ 1073741824) :
    Calls Tryz.prog 12 #[.agg #[.string ⟨seed.toArray⟩, .int .i64 h, .int .i64 n]] w fun e w' => e = .returned (.tuple #[.string ⟨(pubR seed h).1.toArray⟩, .int .i64 (pubR seed h).2]) ∧ Below w.heap.size w w' := by
  obtain ⟨W, hW⟩ : ∃ W, w.alloc (.cells #[.string ⟨seed.toArray⟩, .int .i64 h, .int .i64 n] 28) = W := ⟨_, rfl⟩
  have b0 : Below w.heap.size w W := by rw [← hW]; exact (Below.refl _ w).alloc (Nat.le_refl _) _
  have bl : Blk W w.heap.size 28 #[.string ⟨seed.toArray⟩, .int .i64 h, .int .i64 n] := by rw [← hW]; exact Blk.new w _ _
  have hcell : ∀ W', Below W.heap.size W W' → W'.cell? ⟨w.heap.size, 0, none⟩ = some (.string ⟨seed.toArray⟩) ∧ W'.cell? ⟨w.heap.size, 1, none⟩ = some (.int .i64 h) ∧ W'.cell? ⟨w.heap.size, 2, none⟩ = some (.int .i64 n) := fun W' hb => ⟨below_cell hb (bl.cell 0), below_cell hb (bl.cell 1), below_cell hb (bl.cell 2)⟩
  have kt := kvalid_ref seed h 0 W
  rw [validB_zero] at kt
  obtain ⟨c0, c1, c2⟩ := hcell _ (Below.refl _ _)
  have HB := Lib.hid (And.intro hcell b0)
  clear hcell bl
  unfold pubR
  cases ht : treeB seed h with
  | false =>
    rw [ht] at kt
    rw [if_neg (by simp)]
    clear ht
    go_enter Tryz.func12, Tryz.ntmps12
    go_wp2_with fail
    refine kt.mono ?_
    rintro e w1 ⟨rfl, b1⟩
    go_wp2
    go_ret2
    exact ⟨rfl, b0.trans (b1.mono b0.size)⟩
  | true =>
    rw [ht] at kt
    rw [if_pos rfl]
    obtain ⟨hsl, m, rfl, hm⟩ := treeB_parts ht
    rw [Int.toNat_natCast]
    have hP6 := pow6 hm
    have hll := Sg.lvs_len seed (2 ^ m)
    have hrt := root_lvs seed m hm
    have hpk : pubK seed m = Mk.root (Sg.lvs seed (2 ^ m)) ++ [UInt8.ofNat m] := rfl
    have hrl := Mk.rootD (Sg.lvs_dig seed (2 ^ m))
    have kL : ∀ W', Calls Tryz.prog 35 #[.agg #[.string ⟨seed.toArray⟩, .int .i64 (m : Int), .int .i64 n]] W' (KlP (Sg.lvs seed (2 ^ m)) (2 ^ m) W') := fun W' => by
      have := rleaves_spec seed m n W' hs hm
      unfold SlR at this
      rw [hll] at this
      exact this
    have kR : ∀ W' A c, Rd W' A (strs (Sg.lvs seed (2 ^ m))) → 2 ^ m ≤ c → c ≤ maxLen → Calls Tryz.prog 34 #[.slice A (2 ^ m) c] W' fun e w' => e = .returned (.string ⟨(Mk.root (Sg.lvs seed (2 ^ m))).toArray⟩) ∧ Below W'.heap.size W' w' := fun W' A c h1 h2 h3 => by
      have := root_rk A (Sg.lvs seed (2 ^ m)) c W' h1 (by omega) (by omega) h3
      rw [hrt, hll] at this
      exact this
    rw [hpk]
    generalize Mk.root (Sg.lvs seed (2 ^ m)) = R at kR hrl ⊢
    generalize Sg.lvs seed (2 ^ m) = L at kL kR
    generalize 2 ^ m = P at kL kR hP6
    have hba := bytes_append R [UInt8.ofNat m]
    obtain ⟨f1, f2⟩ := sg_cat R [UInt8.ofNat m] (by simp; omega)
    have hu : ((m : Int)) = ((UInt8.ofNat m).toNat : Int) := by rw [UInt8.toNat_ofNat']; omega
    have hw8 : IntKind.u8.wrap (m : Int) = (m : Int) := by rw [IntKind.wrap_u8]; omega
    generalize R ++ [UInt8.ofNat m] = Z at hba ⊢
    have hone : ([UInt8.ofNat m] : List UInt8).length = 1 := rfl
    obtain ⟨O, hO⟩ : ∃ O : List UInt8, [UInt8.ofNat m] = O := ⟨_, rfl⟩
    rw [hO] at hba f1 f2
    have kc : ∀ (W' : World) g, W'.cell? ⟨g, 0, none⟩ = some (.int .u8 (m : Int)) → (convert 54 9 (.slice (some ⟨g, 0, none⟩) 1 1)).run Tryz.prog W' = .ok (.string ⟨O.toArray⟩) W' := fun W' g hc => by
      rw [← hO]
      exact conv1 W' g (UInt8.ofNat m) _ hu hc
    have HU := Lib.hid (And.intro hu kc)
    clear ht hll hrt hpk hO hone hu kc hsl hrl
    go_enter Tryz.func12, Tryz.ntmps12
    go_wp2_with fail
    refine kt.mono ?_
    rintro e w1 ⟨rfl, b1⟩
    have y0 := b1.drew
    have y9 := (b1.alloc b1.size (.cells #[.int .u8 (m : Int)] 5)).drew
    have x9 : (w1.alloc (.cells #[.int .u8 (m : Int)] 5)).drew.cell? ⟨w1.heap.size, 0, none⟩ = some (.int .u8 (m : Int)) := (Blk.new w1 5 #[.int .u8 (m : Int)]).cell 0
    have X9 := Lib.hid x9
    clear x9 c0 c1 c2 kt
    go_wp2_with fail
    refine wp_region_noPanic ?_
    refine wp_region_held_drew (S := (fun w' => w'.cell? ⟨w.heap.size, 0, none⟩ = some (.string ⟨seed.toArray⟩) ∧ w'.cell? ⟨w.heap.size, 1, none⟩ = some (.int .i64 (m : Int)) ∧ w'.cell? ⟨w.heap.size, 2, none⟩ = some (.int .i64 n))) (by kernel_rfl) ?_ (fun hH0 => ?_)
    · (first
        | exact HB.out.1 _ y0
        | exact HB.out.1 _ y9
        | exact HB.out.1 _ yL
        | exact HB.out.1 _ (yL.alloc yL.size _)
        | exact HB.out.1 _ yR
        | exact HB.out.1 _ (yR.alloc yR.size _)
        | fail)
    refine wpAnyH_take (i := 0) (oi := ⟨some 11, _, _, _, _, _⟩) (v := ?_) rfl (by kernel_rfl) (by kernel_rfl) (by kernel_rfl) (fun _ _ _ h => h) (Or.inl ⟨by rfl, ?_⟩) hH0 ?_
    rotate_left 1
    · intro w hSw; (try dsimp only at hSw); go_simp; with_reducible rfl
    try simp only [Act.put, List.setIfInBounds_toArray, List.set_cons_zero, List.set_cons_succ]
    refine wpAnyH_take (i := 3) (oi := ⟨some 14, _, _, _, _, _⟩) (v := ?_) rfl (by kernel_rfl) (by kernel_rfl) (by kernel_rfl) (fun _ _ _ h => h) (Or.inl ⟨by rfl, ?_⟩) hH0 ?_
    rotate_left 1
    · intro w hSw; (try dsimp only at hSw); go_simp; with_reducible rfl
    try simp only [Act.put, List.setIfInBounds_toArray, List.set_cons_zero, List.set_cons_succ]
    refine wpAnyH_take (i := 4) (oi := ⟨some 15, _, _, _, _, _⟩) (v := ?_) rfl (by kernel_rfl) (by kernel_rfl) (by kernel_rfl) (fun _ _ _ h => h) (Or.inl ⟨by rfl, ?_⟩) hH0 ?_
    rotate_left 1
    · intro w hSw; (try dsimp only at hSw); go_simp; with_reducible rfl
    try simp only [Act.put, List.setIfInBounds_toArray, List.set_cons_zero, List.set_cons_succ]
    refine wpAnyH_take (i := 5) (oi := ⟨some 16, _, _, _, _, _⟩) (v := ?_) rfl (by kernel_rfl) (by kernel_rfl) (by kernel_rfl) (fun _ _ _ h => h) (Or.inl ⟨by rfl, ?_⟩) hH0 ?_
    rotate_left 1
    · intro w hSw; (try dsimp only at hSw); go_simp; with_reducible rfl
    try simp only [Act.put, List.setIfInBounds_toArray, List.set_cons_zero, List.set_cons_succ]
    refine wpAnyH_ready (rs := [1, 6]) (by kernel_rfl) (by simp) ?_
    refine AllReadyH.cons (o := ⟨some 12, _, _, _, _, _⟩) rfl (fun K hK => ?_) ?_
    go_simp; (first
          | (with_reducible refine (kL w1.drew).mono ?_
             rintro e v1 ⟨A1, c1, rfl, hc1, hm1, t1⟩
             have yL := y0.trans (t1.below.mono y0.size)
             have rL := Rd.of_own t1.own)
          | (with_reducible refine (kL (w1.alloc (.cells #[.int .u8 (m : Int)] 5)).drew).mono ?_
             rintro e v1 ⟨A1, c1, rfl, hc1, hm1, t1⟩
             have yL := y9.trans (t1.below.mono y9.size)
             have rL := Rd.of_own t1.own
             have xL := Lib.hid (below_cell t1.below X9.out))
          | (with_reducible refine (kR v1 A1 c1 rL hc1 hm1).mono ?_
             rintro e v2 ⟨rfl, b2⟩
             have xR := Lib.hid (below_cell b2 xL.out)
             have yR := yL.trans (b2.mono yL.size))
          | (with_reducible refine (kR v1 A1 c1 rL hc1 hm1).mono ?_
             rintro e v2 ⟨rfl, b2⟩
             have yR := yL.trans (b2.mono yL.size))
          | (with_reducible refine (kR (v1.alloc (.cells #[.int .u8 (m : Int)] 5)) A1 c1 (rL.alloc _) hc1 hm1).mono ?_
             rintro e v2 ⟨rfl, b2⟩
             have xR := Lib.hid (below_cell b2 ((Blk.new v1 5 #[.int .u8 (m : Int)]).cell 0))
             have yR := (yL.alloc yL.size (.cells #[.int .u8 (m : Int)] 5)).trans (b2.mono (yL.alloc yL.size (.cells #[.int .u8 (m : Int)] 5)).size))
          | (refine stepV 54 9 _ (by rfl) (by rfl) (by rfl) (HU.out.2 _ _ xR.out) ?_)
          | (refine stepV 54 9 _ (by rfl) (by rfl) (by rfl) (HU.out.2 _ _ xL.out) ?_)
          | (refine stepV 54 9 _ (by rfl) (by rfl) (by rfl) (HU.out.2 _ _ X9.out) ?_)
          | (refine stepV 54 9 _ (by rfl) (by rfl) (by rfl) (HU.out.2 _ _ ((Blk.new v1 5 #[.int .u8 (m : Int)]).cell 0)) ?_)
          | (refine stepV 54 9 _ (by rfl) (by rfl) (by rfl) (HU.out.2 _ _ ((Blk.new v2 5 #[.int .u8 (m : Int)]).cell 0)) ?_)
          | fail); go_wp2_with fail
    refine hK.out _ _ ?_ (fun hH1 => ?_)
    · (first
        | exact HB.out.1 _ y0
        | exact HB.out.1 _ y9
        | exact HB.out.1 _ yL
        | exact HB.out.1 _ (yL.alloc yL.size _)
        | exact HB.out.1 _ yR
        | exact HB.out.1 _ (yR.alloc yR.size _)
        | fail)
    clear hK K hH0
    try simp only [Act.put, List.setIfInBounds_toArray, List.set_cons_zero, List.set_cons_succ]
    refine wpAnyH_ready (rs := [2, 6]) (by kernel_rfl) (by simp) ?_
    refine AllReadyH.cons (o := ⟨some 13, _, _, _, _, _⟩) rfl (fun K hK => ?_) ?_
    go_simp; (first
          | (with_reducible refine (kL w1.drew).mono ?_
             rintro e v1 ⟨A1, c1, rfl, hc1, hm1, t1⟩
             have yL := y0.trans (t1.below.mono y0.size)
             have rL := Rd.of_own t1.own)
          | (with_reducible refine (kL (w1.alloc (.cells #[.int .u8 (m : Int)] 5)).drew).mono ?_
             rintro e v1 ⟨A1, c1, rfl, hc1, hm1, t1⟩
             have yL := y9.trans (t1.below.mono y9.size)
             have rL := Rd.of_own t1.own
             have xL := Lib.hid (below_cell t1.below X9.out))
          | (with_reducible refine (kR v1 A1 c1 rL hc1 hm1).mono ?_
             rintro e v2 ⟨rfl, b2⟩
             have xR := Lib.hid (below_cell b2 xL.out)
             have yR := yL.trans (b2.mono yL.size))
          | (with_reducible refine (kR v1 A1 c1 rL hc1 hm1).mono ?_
             rintro e v2 ⟨rfl, b2⟩
             have yR := yL.trans (b2.mono yL.size))
          | (with_reducible refine (kR (v1.alloc (.cells #[.int .u8 (m : Int)] 5)) A1 c1 (rL.alloc _) hc1 hm1).mono ?_
             rintro e v2 ⟨rfl, b2⟩
             have xR := Lib.hid (below_cell b2 ((Blk.new v1 5 #[.int .u8 (m : Int)]).cell 0))
             have yR := (yL.alloc yL.size (.cells #[.int .u8 (m : Int)] 5)).trans (b2.mono (yL.alloc yL.size (.cells #[.int .u8 (m : Int)] 5)).size))
          | (refine stepV 54 9 _ (by rfl) (by rfl) (by rfl) (HU.out.2 _ _ xR.out) ?_)
          | (refine stepV 54 9 _ (by rfl) (by rfl) (by rfl) (HU.out.2 _ _ xL.out) ?_)
          | (refine stepV 54 9 _ (by rfl) (by rfl) (by rfl) (HU.out.2 _ _ X9.out) ?_)
          | (refine stepV 54 9 _ (by rfl) (by rfl) (by rfl) (HU.out.2 _ _ ((Blk.new v1 5 #[.int .u8 (m : Int)]).cell 0)) ?_)
          | (refine stepV 54 9 _ (by rfl) (by rfl) (by rfl) (HU.out.2 _ _ ((Blk.new v2 5 #[.int .u8 (m : Int)]).cell 0)) ?_)
          | fail); go_wp2_with fail
    refine hK.out _ _ ?_ (fun hH2 => ?_)
    · (first
        | exact HB.out.1 _ y0
        | exact HB.out.1 _ y9
        | exact HB.out.1 _ yL
        | exact HB.out.1 _ (yL.alloc yL.size _)
        | exact HB.out.1 _ yR
        | exact HB.out.1 _ (yR.alloc yR.size _)
        | fail)
    clear hK K hH1
    try simp only [Act.put, List.setIfInBounds_toArray, List.set_cons_zero, List.set_cons_succ]
    refine wpAnyH_ready (rs := [6]) (by kernel_rfl) (by simp) ?_
    refine AllReadyH.cons (o := ⟨some 17, _, _, _, _, _⟩) rfl (fun K hK => ?_) AllReadyH.nil
    go_simp
    refine hK.out _ _ ?_ (fun hH3 => ?_)
    · (first
        | exact HB.out.1 _ y0
        | exact HB.out.1 _ y9
        | exact HB.out.1 _ yL
        | exact HB.out.1 _ (yL.alloc yL.size _)
        | exact HB.out.1 _ yR
        | exact HB.out.1 _ (yR.alloc yR.size _)
        | fail)
    clear hK K hH2
    try simp only [Act.put, List.setIfInBounds_toArray, List.set_cons_zero, List.set_cons_succ]
    refine wpAnyH_ready (rs := [7]) (by kernel_rfl) (by simp) ?_
    refine AllReadyH.cons (o := ⟨some 18, _, _, _, _, _⟩) rfl (fun K hK => ?_) AllReadyH.nil
    (first
          | (with_reducible refine (kL w1.drew).mono ?_
             rintro e v1 ⟨A1, c1, rfl, hc1, hm1, t1⟩
             have yL := y0.trans (t1.below.mono y0.size)
             have rL := Rd.of_own t1.own)
          | (with_reducible refine (kL (w1.alloc (.cells #[.int .u8 (m : Int)] 5)).drew).mono ?_
             rintro e v1 ⟨A1, c1, rfl, hc1, hm1, t1⟩
             have yL := y9.trans (t1.below.mono y9.size)
             have rL := Rd.of_own t1.own
             have xL := Lib.hid (below_cell t1.below X9.out))
          | (with_reducible refine (kR v1 A1 c1 rL hc1 hm1).mono ?_
             rintro e v2 ⟨rfl, b2⟩
             have xR := Lib.hid (below_cell b2 xL.out)
             have yR := yL.trans (b2.mono yL.size))
          | (with_reducible refine (kR v1 A1 c1 rL hc1 hm1).mono ?_
             rintro e v2 ⟨rfl, b2⟩
             have yR := yL.trans (b2.mono yL.size))
          | (with_reducible refine (kR (v1.alloc (.cells #[.int .u8 (m : Int)] 5)) A1 c1 (rL.alloc _) hc1 hm1).mono ?_
             rintro e v2 ⟨rfl, b2⟩
             have xR := Lib.hid (below_cell b2 ((Blk.new v1 5 #[.int .u8 (m : Int)]).cell 0))
             have yR := (yL.alloc yL.size (.cells #[.int .u8 (m : Int)] 5)).trans (b2.mono (yL.alloc yL.size (.cells #[.int .u8 (m : Int)] 5)).size))
          | (refine stepV 54 9 _ (by rfl) (by rfl) (by rfl) (HU.out.2 _ _ xR.out) ?_)
          | (refine stepV 54 9 _ (by rfl) (by rfl) (by rfl) (HU.out.2 _ _ xL.out) ?_)
          | (refine stepV 54 9 _ (by rfl) (by rfl) (by rfl) (HU.out.2 _ _ X9.out) ?_)
          | (refine stepV 54 9 _ (by rfl) (by rfl) (by rfl) (HU.out.2 _ _ ((Blk.new v1 5 #[.int .u8 (m : Int)]).cell 0)) ?_)
          | (refine stepV 54 9 _ (by rfl) (by rfl) (by rfl) (HU.out.2 _ _ ((Blk.new v2 5 #[.int .u8 (m : Int)]).cell 0)) ?_)
          | fail)
    refine hK.out _ _ ?_ (fun hH4 => ?_)
    · (first
        | exact HB.out.1 _ y0
        | exact HB.out.1 _ y9
        | exact HB.out.1 _ yL
        | exact HB.out.1 _ (yL.alloc yL.size _)
        | exact HB.out.1 _ yR
        | exact HB.out.1 _ (yR.alloc yR.size _)
        | fail)
    clear hK K hH3
    try simp only [Act.put, List.setIfInBounds_toArray, List.set_cons_zero, List.set_cons_succ]
    refine wpAnyH_take (i := 8) (oi := ⟨some 19, _, _, _, _, _⟩) (v := ?_) rfl (by kernel_rfl) (by kernel_rfl) (by kernel_rfl) (fun _ _ _ h => h) (Or.inl ⟨by rfl, ?_⟩) hH4 ?_
    rotate_left 1
    · intro w hSw; (try dsimp only at hSw); go_simp; with_reducible rfl
    try simp only [Act.put, List.setIfInBounds_toArray, List.set_cons_zero, List.set_cons_succ]
    refine wpAnyH_take (i := 9) (oi := ⟨some 2, _, _, _, _, _⟩) (v := ?_) rfl (by kernel_rfl) (by kernel_rfl) (by kernel_rfl) (fun _ _ _ h => h) (Or.inl ⟨by rfl, ?_⟩) hH4 ?_
    rotate_left 1
    · intro w hSw; (try dsimp only at hSw); go_simp; with_reducible rfl
    try simp only [Act.put, List.setIfInBounds_toArray, List.set_cons_zero, List.set_cons_succ]
    refine wpAnyH_take (i := 10) (oi := ⟨some 3, _, _, _, _, _⟩) (v := ?_) rfl (by kernel_rfl) (by kernel_rfl) (by kernel_rfl) (fun _ _ _ h => h) (Or.inl ⟨by rfl, ?_⟩) hH4 ?_
    rotate_left 1
    · intro w hSw; (try dsimp only at hSw); go_simp; with_reducible rfl
    try simp only [Act.put, List.setIfInBounds_toArray, List.set_cons_zero, List.set_cons_succ]
    refine wpAnyH_done (by kernel_rfl) ?_ _
    rotate_left 1
    refine AllReadyH.cons (o := ⟨some 17, _, _, _, _, _⟩) rfl (fun K hK => ?_) AllReadyH.nil
    go_simp
    refine hK.out _ _ ?_ (fun hH5 => ?_)
    · (first
        | exact HB.out.1 _ y0
        | exact HB.out.1 _ y9
        | exact HB.out.1 _ yL
        | exact HB.out.1 _ (yL.alloc yL.size _)
        | exact HB.out.1 _ yR
        | exact HB.out.1 _ (yR.alloc yR.size _)
        | fail)
    clear hK K hH1
    try simp only [Act.put, List.setIfInBounds_toArray, List.set_cons_zero, List.set_cons_succ]
    refine wpAnyH_ready (rs := [2, 7]) (by kernel_rfl) (by simp) ?_
    refine AllReadyH.cons (o := ⟨some 13, _, _, _, _, _⟩) rfl (fun K hK => ?_) ?_
    go_simp; (first
          | (with_reducible refine (kL w1.drew).mono ?_
             rintro e v1 ⟨A1, c1, rfl, hc1, hm1, t1⟩
             have yL := y0.trans (t1.below.mono y0.size)
             have rL := Rd.of_own t1.own)
          | (with_reducible refine (kL (w1.alloc (.cells #[.int .u8 (m : Int)] 5)).drew).mono ?_
             rintro e v1 ⟨A1, c1, rfl, hc1, hm1, t1⟩
             have yL := y9.trans (t1.below.mono y9.size)
             have rL := Rd.of_own t1.own
             have xL := Lib.hid (below_cell t1.below X9.out))
          | (with_reducible refine (kR v1 A1 c1 rL hc1 hm1).mono ?_
             rintro e v2 ⟨rfl, b2⟩
             have xR := Lib.hid (below_cell b2 xL.out)
             have yR := yL.trans (b2.mono yL.size))
          | (with_reducible refine (kR v1 A1 c1 rL hc1 hm1).mono ?_
             rintro e v2 ⟨rfl, b2⟩
             have yR := yL.trans (b2.mono yL.size))
          | (with_reducible refine (kR (v1.alloc (.cells #[.int .u8 (m : Int)] 5)) A1 c1 (rL.alloc _) hc1 hm1).mono ?_
             rintro e v2 ⟨rfl, b2⟩
             have xR := Lib.hid (below_cell b2 ((Blk.new v1 5 #[.int .u8 (m : Int)]).cell 0))
             have yR := (yL.alloc yL.size (.cells #[.int .u8 (m : Int)] 5)).trans (b2.mono (yL.alloc yL.size (.cells #[.int .u8 (m : Int)] 5)).size))
          | (refine stepV 54 9 _ (by rfl) (by rfl) (by rfl) (HU.out.2 _ _ xR.out) ?_)
          | (refine stepV 54 9 _ (by rfl) (by rfl) (by rfl) (HU.out.2 _ _ xL.out) ?_)
          | (refine stepV 54 9 _ (by rfl) (by rfl) (by rfl) (HU.out.2 _ _ X9.out) ?_)
          | (refine stepV 54 9 _ (by rfl) (by rfl) (by rfl) (HU.out.2 _ _ ((Blk.new v1 5 #[.int .u8 (m : Int)]).cell 0)) ?_)
          | (refine stepV 54 9 _ (by rfl) (by rfl) (by rfl) (HU.out.2 _ _ ((Blk.new v2 5 #[.int .u8 (m : Int)]).cell 0)) ?_)
          | fail); go_wp2_with fail
    refine hK.out _ _ ?_ (fun hH6 => ?_)
    · (first
        | exact HB.out.1 _ y0
        | exact HB.out.1 _ y9
        | exact HB.out.1 _ yL
        | exact HB.out.1 _ (yL.alloc yL.size _)
        | exact HB.out.1 _ yR
        | exact HB.out.1 _ (yR.alloc yR.size _)
        | fail)
    clear hK K hH5
    try simp only [Act.put, List.setIfInBounds_toArray, List.set_cons_zero, List.set_cons_succ]
    refine wpAnyH_ready (rs := [7]) (by kernel_rfl) (by simp) ?_
    refine AllReadyH.cons (o := ⟨some 18, _, _, _, _, _⟩) rfl (fun K hK => ?_) AllReadyH.nil
    (first
          | (with_reducible refine (kL w1.drew).mono ?_
             rintro e v1 ⟨A1, c1, rfl, hc1, hm1, t1⟩
             have yL := y0.trans (t1.below.mono y0.size)
             have rL := Rd.of_own t1.own)
          | (with_reducible refine (kL (w1.alloc (.cells #[.int .u8 (m : Int)] 5)).drew).mono ?_
             rintro e v1 ⟨A1, c1, rfl, hc1, hm1, t1⟩
             have yL := y9.trans (t1.below.mono y9.size)
             have rL := Rd.of_own t1.own
             have xL := Lib.hid (below_cell t1.below X9.out))
          | (with_reducible refine (kR v1 A1 c1 rL hc1 hm1).mono ?_
             rintro e v2 ⟨rfl, b2⟩
             have xR := Lib.hid (below_cell b2 xL.out)
             have yR := yL.trans (b2.mono yL.size))
          | (with_reducible refine (kR v1 A1 c1 rL hc1 hm1).mono ?_
             rintro e v2 ⟨rfl, b2⟩
             have yR := yL.trans (b2.mono yL.size))
          | (with_reducible refine (kR (v1.alloc (.cells #[.int .u8 (m : Int)] 5)) A1 c1 (rL.alloc _) hc1 hm1).mono ?_
             rintro e v2 ⟨rfl, b2⟩
             have xR := Lib.hid (below_cell b2 ((Blk.new v1 5 #[.int .u8 (m : Int)]).cell 0))
             have yR := (yL.alloc yL.size (.cells #[.int .u8 (m : Int)] 5)).trans (b2.mono (yL.alloc yL.size (.cells #[.int .u8 (m : Int)] 5)).size))
          | (refine stepV 54 9 _ (by rfl) (by rfl) (by rfl) (HU.out.2 _ _ xR.out) ?_)
          | (refine stepV 54 9 _ (by rfl) (by rfl) (by rfl) (HU.out.2 _ _ xL.out) ?_)
          | (refine stepV 54 9 _ (by rfl) (by rfl) (by rfl) (HU.out.2 _ _ X9.out) ?_)
          | (refine stepV 54 9 _ (by rfl) (by rfl) (by rfl) (HU.out.2 _ _ ((Blk.new v1 5 #[.int .u8 (m : Int)]).cell 0)) ?_)
          | (refine stepV 54 9 _ (by rfl) (by rfl) (by rfl) (HU.out.2 _ _ ((Blk.new v2 5 #[.int .u8 (m : Int)]).cell 0)) ?_)
          | fail)
    refine hK.out _ _ ?_ (fun hH7 => ?_)
    · (first
        | exact HB.out.1 _ y0
        | exact HB.out.1 _ y9
        | exact HB.out.1 _ yL
        | exact HB.out.1 _ (yL.alloc yL.size _)
        | exact HB.out.1 _ yR
        | exact HB.out.1 _ (yR.alloc yR.size _)
        | fail)
    clear hK K hH6
    try simp only [Act.put, List.setIfInBounds_toArray, List.set_cons_zero, List.set_cons_succ]
    refine wpAnyH_take (i := 8) (oi := ⟨some 19, _, _, _, _, _⟩) (v := ?_) rfl (by kernel_rfl) (by kernel_rfl) (by kernel_rfl) (fun _ _ _ h => h) (Or.inl ⟨by rfl, ?_⟩) hH7 ?_
    rotate_left 1
    · intro w hSw; (try dsimp only at hSw); go_simp; with_reducible rfl
    try simp only [Act.put, List.setIfInBounds_toArray, List.set_cons_zero, List.set_cons_succ]
    refine wpAnyH_take (i := 9) (oi := ⟨some 2, _, _, _, _, _⟩) (v := ?_) rfl (by kernel_rfl) (by kernel_rfl) (by kernel_rfl) (fun _ _ _ h => h) (Or.inl ⟨by rfl, ?_⟩) hH7 ?_
    rotate_left 1
    · intro w hSw; (try dsimp only at hSw); go_simp; with_reducible rfl
    try simp only [Act.put, List.setIfInBounds_toArray, List.set_cons_zero, List.set_cons_succ]
    refine wpAnyH_take (i := 10) (oi := ⟨some 3, _, _, _, _, _⟩) (v := ?_) rfl (by kernel_rfl) (by kernel_rfl) (by kernel_rfl) (fun _ _ _ h => h) (Or.inl ⟨by rfl, ?_⟩) hH7 ?_
    rotate_left 1
    · intro w hSw; (try dsimp only at hSw); go_simp; with_reducible rfl
    try simp only [Act.put, List.setIfInBounds_toArray, List.set_cons_zero, List.set_cons_succ]
    refine wpAnyH_done (by kernel_rfl) ?_ _
    rotate_left 1
    refine AllReadyH.cons (o := ⟨some 18, _, _, _, _, _⟩) rfl (fun K hK => ?_) AllReadyH.nil
    (first
          | (with_reducible refine (kL w1.drew).mono ?_
             rintro e v1 ⟨A1, c1, rfl, hc1, hm1, t1⟩
             have yL := y0.trans (t1.below.mono y0.size)
             have rL := Rd.of_own t1.own)
          | (with_reducible refine (kL (w1.alloc (.cells #[.int .u8 (m : Int)] 5)).drew).mono ?_
             rintro e v1 ⟨A1, c1, rfl, hc1, hm1, t1⟩
             have yL := y9.trans (t1.below.mono y9.size)
             have rL := Rd.of_own t1.own
             have xL := Lib.hid (below_cell t1.below X9.out))
          | (with_reducible refine (kR v1 A1 c1 rL hc1 hm1).mono ?_
             rintro e v2 ⟨rfl, b2⟩
             have xR := Lib.hid (below_cell b2 xL.out)
             have yR := yL.trans (b2.mono yL.size))
          | (with_reducible refine (kR v1 A1 c1 rL hc1 hm1).mono ?_
             rintro e v2 ⟨rfl, b2⟩
             have yR := yL.trans (b2.mono yL.size))
          | (with_reducible refine (kR (v1.alloc (.cells #[.int .u8 (m : Int)] 5)) A1 c1 (rL.alloc _) hc1 hm1).mono ?_
             rintro e v2 ⟨rfl, b2⟩
             have xR := Lib.hid (below_cell b2 ((Blk.new v1 5 #[.int .u8 (m : Int)]).cell 0))
             have yR := (yL.alloc yL.size (.cells #[.int .u8 (m : Int)] 5)).trans (b2.mono (yL.alloc yL.size (.cells #[.int .u8 (m : Int)] 5)).size))
          | (refine stepV 54 9 _ (by rfl) (by rfl) (by rfl) (HU.out.2 _ _ xR.out) ?_)
          | (refine stepV 54 9 _ (by rfl) (by rfl) (by rfl) (HU.out.2 _ _ xL.out) ?_)
          | (refine stepV 54 9 _ (by rfl) (by rfl) (by rfl) (HU.out.2 _ _ X9.out) ?_)
          | (refine stepV 54 9 _ (by rfl) (by rfl) (by rfl) (HU.out.2 _ _ ((Blk.new v1 5 #[.int .u8 (m : Int)]).cell 0)) ?_)
          | (refine stepV 54 9 _ (by rfl) (by rfl) (by rfl) (HU.out.2 _ _ ((Blk.new v2 5 #[.int .u8 (m : Int)]).cell 0)) ?_)
          | fail)
    refine hK.out _ _ ?_ (fun hH8 => ?_)
    · (first
        | exact HB.out.1 _ y0
        | exact HB.out.1 _ y9
        | exact HB.out.1 _ yL
        | exact HB.out.1 _ (yL.alloc yL.size _)
        | exact HB.out.1 _ yR
        | exact HB.out.1 _ (yR.alloc yR.size _)
        | fail)
    clear hK K hH5
    try simp only [Act.put, List.setIfInBounds_toArray, List.set_cons_zero, List.set_cons_succ]
    refine wpAnyH_ready (rs := [2]) (by kernel_rfl) (by simp) ?_
    refine AllReadyH.cons (o := ⟨some 13, _, _, _, _, _⟩) rfl (fun K hK => ?_) AllReadyH.nil
    go_simp; (first
          | (with_reducible refine (kL w1.drew).mono ?_
             rintro e v1 ⟨A1, c1, rfl, hc1, hm1, t1⟩
             have yL := y0.trans (t1.below.mono y0.size)
             have rL := Rd.of_own t1.own)
          | (with_reducible refine (kL (w1.alloc (.cells #[.int .u8 (m : Int)] 5)).drew).mono ?_
             rintro e v1 ⟨A1, c1, rfl, hc1, hm1, t1⟩
             have yL := y9.trans (t1.below.mono y9.size)
             have rL := Rd.of_own t1.own
             have xL := Lib.hid (below_cell t1.below X9.out))
          | (with_reducible refine (kR v1 A1 c1 rL hc1 hm1).mono ?_
             rintro e v2 ⟨rfl, b2⟩
             have xR := Lib.hid (below_cell b2 xL.out)
             have yR := yL.trans (b2.mono yL.size))
          | (with_reducible refine (kR v1 A1 c1 rL hc1 hm1).mono ?_
             rintro e v2 ⟨rfl, b2⟩
             have yR := yL.trans (b2.mono yL.size))
          | (with_reducible refine (kR (v1.alloc (.cells #[.int .u8 (m : Int)] 5)) A1 c1 (rL.alloc _) hc1 hm1).mono ?_
             rintro e v2 ⟨rfl, b2⟩
             have xR := Lib.hid (below_cell b2 ((Blk.new v1 5 #[.int .u8 (m : Int)]).cell 0))
             have yR := (yL.alloc yL.size (.cells #[.int .u8 (m : Int)] 5)).trans (b2.mono (yL.alloc yL.size (.cells #[.int .u8 (m : Int)] 5)).size))
          | (refine stepV 54 9 _ (by rfl) (by rfl) (by rfl) (HU.out.2 _ _ xR.out) ?_)
          | (refine stepV 54 9 _ (by rfl) (by rfl) (by rfl) (HU.out.2 _ _ xL.out) ?_)
          | (refine stepV 54 9 _ (by rfl) (by rfl) (by rfl) (HU.out.2 _ _ X9.out) ?_)
          | (refine stepV 54 9 _ (by rfl) (by rfl) (by rfl) (HU.out.2 _ _ ((Blk.new v1 5 #[.int .u8 (m : Int)]).cell 0)) ?_)
          | (refine stepV 54 9 _ (by rfl) (by rfl) (by rfl) (HU.out.2 _ _ ((Blk.new v2 5 #[.int .u8 (m : Int)]).cell 0)) ?_)
          | fail); go_wp2_with fail
    refine hK.out _ _ ?_ (fun hH9 => ?_)
    · (first
        | exact HB.out.1 _ y0
        | exact HB.out.1 _ y9
        | exact HB.out.1 _ yL
        | exact HB.out.1 _ (yL.alloc yL.size _)
        | exact HB.out.1 _ yR
        | exact HB.out.1 _ (yR.alloc yR.size _)
        | fail)
    clear hK K hH8
    try simp only [Act.put, List.setIfInBounds_toArray, List.set_cons_zero, List.set_cons_succ]
    refine wpAnyH_take (i := 8) (oi := ⟨some 19, _, _, _, _, _⟩) (v := ?_) rfl (by kernel_rfl) (by kernel_rfl) (by kernel_rfl) (fun _ _ _ h => h) (Or.inl ⟨by rfl, ?_⟩) hH9 ?_
    rotate_left 1
    · intro w hSw; (try dsimp only at hSw); go_simp; with_reducible rfl
    try simp only [Act.put, List.setIfInBounds_toArray, List.set_cons_zero, List.set_cons_succ]
    refine wpAnyH_take (i := 9) (oi := ⟨some 2, _, _, _, _, _⟩) (v := ?_) rfl (by kernel_rfl) (by kernel_rfl) (by kernel_rfl) (fun _ _ _ h => h) (Or.inl ⟨by rfl, ?_⟩) hH9 ?_
    rotate_left 1
    · intro w hSw; (try dsimp only at hSw); go_simp; with_reducible rfl
    try simp only [Act.put, List.setIfInBounds_toArray, List.set_cons_zero, List.set_cons_succ]
    refine wpAnyH_take (i := 10) (oi := ⟨some 3, _, _, _, _, _⟩) (v := ?_) rfl (by kernel_rfl) (by kernel_rfl) (by kernel_rfl) (fun _ _ _ h => h) (Or.inl ⟨by rfl, ?_⟩) hH9 ?_
    rotate_left 1
    · intro w hSw; (try dsimp only at hSw); go_simp; with_reducible rfl
    try simp only [Act.put, List.setIfInBounds_toArray, List.set_cons_zero, List.set_cons_succ]
    refine wpAnyH_done (by kernel_rfl) ?_ _
    rotate_left 1
    refine AllReadyH.cons (o := ⟨some 17, _, _, _, _, _⟩) rfl (fun K hK => ?_) AllReadyH.nil
    go_simp
    refine hK.out _ _ ?_ (fun hH10 => ?_)
    · (first
        | exact HB.out.1 _ y0
        | exact HB.out.1 _ y9
        | exact HB.out.1 _ yL
        | exact HB.out.1 _ (yL.alloc yL.size _)
        | exact HB.out.1 _ yR
        | exact HB.out.1 _ (yR.alloc yR.size _)
        | fail)
    clear hK K hH0
    try simp only [Act.put, List.setIfInBounds_toArray, List.set_cons_zero, List.set_cons_succ]
    refine wpAnyH_ready (rs := [1, 7]) (by kernel_rfl) (by simp) ?_
    refine AllReadyH.cons (o := ⟨some 12, _, _, _, _, _⟩) rfl (fun K hK => ?_) ?_
    go_simp; (first
          | (with_reducible refine (kL w1.drew).mono ?_
             rintro e v1 ⟨A1, c1, rfl, hc1, hm1, t1⟩
             have yL := y0.trans (t1.below.mono y0.size)
             have rL := Rd.of_own t1.own)
          | (with_reducible refine (kL (w1.alloc (.cells #[.int .u8 (m : Int)] 5)).drew).mono ?_
             rintro e v1 ⟨A1, c1, rfl, hc1, hm1, t1⟩
             have yL := y9.trans (t1.below.mono y9.size)
             have rL := Rd.of_own t1.own
             have xL := Lib.hid (below_cell t1.below X9.out))
          | (with_reducible refine (kR v1 A1 c1 rL hc1 hm1).mono ?_
             rintro e v2 ⟨rfl, b2⟩
             have xR := Lib.hid (below_cell b2 xL.out)
             have yR := yL.trans (b2.mono yL.size))
          | (with_reducible refine (kR v1 A1 c1 rL hc1 hm1).mono ?_
             rintro e v2 ⟨rfl, b2⟩
             have yR := yL.trans (b2.mono yL.size))
          | (with_reducible refine (kR (v1.alloc (.cells #[.int .u8 (m : Int)] 5)) A1 c1 (rL.alloc _) hc1 hm1).mono ?_
             rintro e v2 ⟨rfl, b2⟩
             have xR := Lib.hid (below_cell b2 ((Blk.new v1 5 #[.int .u8 (m : Int)]).cell 0))
             have yR := (yL.alloc yL.size (.cells #[.int .u8 (m : Int)] 5)).trans (b2.mono (yL.alloc yL.size (.cells #[.int .u8 (m : Int)] 5)).size))
          | (refine stepV 54 9 _ (by rfl) (by rfl) (by rfl) (HU.out.2 _ _ xR.out) ?_)
          | (refine stepV 54 9 _ (by rfl) (by rfl) (by rfl) (HU.out.2 _ _ xL.out) ?_)
          | (refine stepV 54 9 _ (by rfl) (by rfl) (by rfl) (HU.out.2 _ _ X9.out) ?_)
          | (refine stepV 54 9 _ (by rfl) (by rfl) (by rfl) (HU.out.2 _ _ ((Blk.new v1 5 #[.int .u8 (m : Int)]).cell 0)) ?_)
          | (refine stepV 54 9 _ (by rfl) (by rfl) (by rfl) (HU.out.2 _ _ ((Blk.new v2 5 #[.int .u8 (m : Int)]).cell 0)) ?_)
          | fail); go_wp2_with fail
    refine hK.out _ _ ?_ (fun hH11 => ?_)
    · (first
        | exact HB.out.1 _ y0
        | exact HB.out.1 _ y9
        | exact HB.out.1 _ yL
        | exact HB.out.1 _ (yL.alloc yL.size _)
        | exact HB.out.1 _ yR
        | exact HB.out.1 _ (yR.alloc yR.size _)
        | fail)
    clear hK K hH10
    try simp only [Act.put, List.setIfInBounds_toArray, List.set_cons_zero, List.set_cons_succ]
    refine wpAnyH_ready (rs := [2, 7]) (by kernel_rfl) (by simp) ?_
    refine AllReadyH.cons (o := ⟨some 13, _, _, _, _, _⟩) rfl (fun K hK => ?_) ?_
    go_simp; (first
          | (with_reducible refine (kL w1.drew).mono ?_
             rintro e v1 ⟨A1, c1, rfl, hc1, hm1, t1⟩
             have yL := y0.trans (t1.below.mono y0.size)
             have rL := Rd.of_own t1.own)
          | (with_reducible refine (kL (w1.alloc (.cells #[.int .u8 (m : Int)] 5)).drew).mono ?_
             rintro e v1 ⟨A1, c1, rfl, hc1, hm1, t1⟩
             have yL := y9.trans (t1.below.mono y9.size)
             have rL := Rd.of_own t1.own
             have xL := Lib.hid (below_cell t1.below X9.out))
          | (with_reducible refine (kR v1 A1 c1 rL hc1 hm1).mono ?_
             rintro e v2 ⟨rfl, b2⟩
             have xR := Lib.hid (below_cell b2 xL.out)
             have yR := yL.trans (b2.mono yL.size))
          | (with_reducible refine (kR v1 A1 c1 rL hc1 hm1).mono ?_
             rintro e v2 ⟨rfl, b2⟩
             have yR := yL.trans (b2.mono yL.size))
          | (with_reducible refine (kR (v1.alloc (.cells #[.int .u8 (m : Int)] 5)) A1 c1 (rL.alloc _) hc1 hm1).mono ?_
             rintro e v2 ⟨rfl, b2⟩
             have xR := Lib.hid (below_cell b2 ((Blk.new v1 5 #[.int .u8 (m : Int)]).cell 0))
             have yR := (yL.alloc yL.size (.cells #[.int .u8 (m : Int)] 5)).trans (b2.mono (yL.alloc yL.size (.cells #[.int .u8 (m : Int)] 5)).size))
          | (refine stepV 54 9 _ (by rfl) (by rfl) (by rfl) (HU.out.2 _ _ xR.out) ?_)
          | (refine stepV 54 9 _ (by rfl) (by rfl) (by rfl) (HU.out.2 _ _ xL.out) ?_)
          | (refine stepV 54 9 _ (by rfl) (by rfl) (by rfl) (HU.out.2 _ _ X9.out) ?_)
          | (refine stepV 54 9 _ (by rfl) (by rfl) (by rfl) (HU.out.2 _ _ ((Blk.new v1 5 #[.int .u8 (m : Int)]).cell 0)) ?_)
          | (refine stepV 54 9 _ (by rfl) (by rfl) (by rfl) (HU.out.2 _ _ ((Blk.new v2 5 #[.int .u8 (m : Int)]).cell 0)) ?_)
          | fail); go_wp2_with fail
    refine hK.out _ _ ?_ (fun hH12 => ?_)
    · (first
        | exact HB.out.1 _ y0
        | exact HB.out.1 _ y9
        | exact HB.out.1 _ yL
        | exact HB.out.1 _ (yL.alloc yL.size _)
        | exact HB.out.1 _ yR
        | exact HB.out.1 _ (yR.alloc yR.size _)
        | fail)
    clear hK K hH11
    try simp only [Act.put, List.setIfInBounds_toArray, List.set_cons_zero, List.set_cons_succ]
    refine wpAnyH_ready (rs := [7]) (by kernel_rfl) (by simp) ?_
    refine AllReadyH.cons (o := ⟨some 18, _, _, _, _, _⟩) rfl (fun K hK => ?_) AllReadyH.nil
    (first
          | (with_reducible refine (kL w1.drew).mono ?_
             rintro e v1 ⟨A1, c1, rfl, hc1, hm1, t1⟩
             have yL := y0.trans (t1.below.mono y0.size)
             have rL := Rd.of_own t1.own)
          | (with_reducible refine (kL (w1.alloc (.cells #[.int .u8 (m : Int)] 5)).drew).mono ?_
             rintro e v1 ⟨A1, c1, rfl, hc1, hm1, t1⟩
             have yL := y9.trans (t1.below.mono y9.size)
             have rL := Rd.of_own t1.own
             have xL := Lib.hid (below_cell t1.below X9.out))
          | (with_reducible refine (kR v1 A1 c1 rL hc1 hm1).mono ?_
             rintro e v2 ⟨rfl, b2⟩
             have xR := Lib.hid (below_cell b2 xL.out)
             have yR := yL.trans (b2.mono yL.size))
          | (with_reducible refine (kR v1 A1 c1 rL hc1 hm1).mono ?_
             rintro e v2 ⟨rfl, b2⟩
             have yR := yL.trans (b2.mono yL.size))
          | (with_reducible refine (kR (v1.alloc (.cells #[.int .u8 (m : Int)] 5)) A1 c1 (rL.alloc _) hc1 hm1).mono ?_
             rintro e v2 ⟨rfl, b2⟩
             have xR := Lib.hid (below_cell b2 ((Blk.new v1 5 #[.int .u8 (m : Int)]).cell 0))
             have yR := (yL.alloc yL.size (.cells #[.int .u8 (m : Int)] 5)).trans (b2.mono (yL.alloc yL.size (.cells #[.int .u8 (m : Int)] 5)).size))
          | (refine stepV 54 9 _ (by rfl) (by rfl) (by rfl) (HU.out.2 _ _ xR.out) ?_)
          | (refine stepV 54 9 _ (by rfl) (by rfl) (by rfl) (HU.out.2 _ _ xL.out) ?_)
          | (refine stepV 54 9 _ (by rfl) (by rfl) (by rfl) (HU.out.2 _ _ X9.out) ?_)
          | (refine stepV 54 9 _ (by rfl) (by rfl) (by rfl) (HU.out.2 _ _ ((Blk.new v1 5 #[.int .u8 (m : Int)]).cell 0)) ?_)
          | (refine stepV 54 9 _ (by rfl) (by rfl) (by rfl) (HU.out.2 _ _ ((Blk.new v2 5 #[.int .u8 (m : Int)]).cell 0)) ?_)
          | fail)
    refine hK.out _ _ ?_ (fun hH13 => ?_)
    · (first
        | exact HB.out.1 _ y0
        | exact HB.out.1 _ y9
        | exact HB.out.1 _ yL
        | exact HB.out.1 _ (yL.alloc yL.size _)
        | exact HB.out.1 _ yR
        | exact HB.out.1 _ (yR.alloc yR.size _)
        | fail)
    clear hK K hH12
    try simp only [Act.put, List.setIfInBounds_toArray, List.set_cons_zero, List.set_cons_succ]
    refine wpAnyH_take (i := 8) (oi := ⟨some 19, _, _, _, _, _⟩) (v := ?_) rfl (by kernel_rfl) (by kernel_rfl) (by kernel_rfl) (fun _ _ _ h => h) (Or.inl ⟨by rfl, ?_⟩) hH13 ?_
    rotate_left 1
    · intro w hSw; (try dsimp only at hSw); go_simp; with_reducible rfl
    try simp only [Act.put, List.setIfInBounds_toArray, List.set_cons_zero, List.set_cons_succ]
    refine wpAnyH_take (i := 9) (oi := ⟨some 2, _, _, _, _, _⟩) (v := ?_) rfl (by kernel_rfl) (by kernel_rfl) (by kernel_rfl) (fun _ _ _ h => h) (Or.inl ⟨by rfl, ?_⟩) hH13 ?_
    rotate_left 1
    · intro w hSw; (try dsimp only at hSw); go_simp; with_reducible rfl
    try simp only [Act.put, List.setIfInBounds_toArray, List.set_cons_zero, List.set_cons_succ]
    refine wpAnyH_take (i := 10) (oi := ⟨some 3, _, _, _, _, _⟩) (v := ?_) rfl (by kernel_rfl) (by kernel_rfl) (by kernel_rfl) (fun _ _ _ h => h) (Or.inl ⟨by rfl, ?_⟩) hH13 ?_
    rotate_left 1
    · intro w hSw; (try dsimp only at hSw); go_simp; with_reducible rfl
    try simp only [Act.put, List.setIfInBounds_toArray, List.set_cons_zero, List.set_cons_succ]
    refine wpAnyH_done (by kernel_rfl) ?_ _
    rotate_left 1
    refine AllReadyH.cons (o := ⟨some 18, _, _, _, _, _⟩) rfl (fun K hK => ?_) AllReadyH.nil
    (first
          | (with_reducible refine (kL w1.drew).mono ?_
             rintro e v1 ⟨A1, c1, rfl, hc1, hm1, t1⟩
             have yL := y0.trans (t1.below.mono y0.size)
             have rL := Rd.of_own t1.own)
          | (with_reducible refine (kL (w1.alloc (.cells #[.int .u8 (m : Int)] 5)).drew).mono ?_
             rintro e v1 ⟨A1, c1, rfl, hc1, hm1, t1⟩
             have yL := y9.trans (t1.below.mono y9.size)
             have rL := Rd.of_own t1.own
             have xL := Lib.hid (below_cell t1.below X9.out))
          | (with_reducible refine (kR v1 A1 c1 rL hc1 hm1).mono ?_
             rintro e v2 ⟨rfl, b2⟩
             have xR := Lib.hid (below_cell b2 xL.out)
             have yR := yL.trans (b2.mono yL.size))
          | (with_reducible refine (kR v1 A1 c1 rL hc1 hm1).mono ?_
             rintro e v2 ⟨rfl, b2⟩
             have yR := yL.trans (b2.mono yL.size))
          | (with_reducible refine (kR (v1.alloc (.cells #[.int .u8 (m : Int)] 5)) A1 c1 (rL.alloc _) hc1 hm1).mono ?_
             rintro e v2 ⟨rfl, b2⟩
             have xR := Lib.hid (below_cell b2 ((Blk.new v1 5 #[.int .u8 (m : Int)]).cell 0))
             have yR := (yL.alloc yL.size (.cells #[.int .u8 (m : Int)] 5)).trans (b2.mono (yL.alloc yL.size (.cells #[.int .u8 (m : Int)] 5)).size))
          | (refine stepV 54 9 _ (by rfl) (by rfl) (by rfl) (HU.out.2 _ _ xR.out) ?_)
          | (refine stepV 54 9 _ (by rfl) (by rfl) (by rfl) (HU.out.2 _ _ xL.out) ?_)
          | (refine stepV 54 9 _ (by rfl) (by rfl) (by rfl) (HU.out.2 _ _ X9.out) ?_)
          | (refine stepV 54 9 _ (by rfl) (by rfl) (by rfl) (HU.out.2 _ _ ((Blk.new v1 5 #[.int .u8 (m : Int)]).cell 0)) ?_)
          | (refine stepV 54 9 _ (by rfl) (by rfl) (by rfl) (HU.out.2 _ _ ((Blk.new v2 5 #[.int .u8 (m : Int)]).cell 0)) ?_)
          | fail)
    refine hK.out _ _ ?_ (fun hH14 => ?_)
    · (first
        | exact HB.out.1 _ y0
        | exact HB.out.1 _ y9
        | exact HB.out.1 _ yL
        | exact HB.out.1 _ (yL.alloc yL.size _)
        | exact HB.out.1 _ yR
        | exact HB.out.1 _ (yR.alloc yR.size _)
        | fail)
    clear hK K hH11
    try simp only [Act.put, List.setIfInBounds_toArray, List.set_cons_zero, List.set_cons_succ]
    refine wpAnyH_ready (rs := [2]) (by kernel_rfl) (by simp) ?_
    refine AllReadyH.cons (o := ⟨some 13, _, _, _, _, _⟩) rfl (fun K hK => ?_) AllReadyH.nil
    go_simp; (first
          | (with_reducible refine (kL w1.drew).mono ?_
             rintro e v1 ⟨A1, c1, rfl, hc1, hm1, t1⟩
             have yL := y0.trans (t1.below.mono y0.size)
             have rL := Rd.of_own t1.own)
          | (with_reducible refine (kL (w1.alloc (.cells #[.int .u8 (m : Int)] 5)).drew).mono ?_
             rintro e v1 ⟨A1, c1, rfl, hc1, hm1, t1⟩
             have yL := y9.trans (t1.below.mono y9.size)
             have rL := Rd.of_own t1.own
             have xL := Lib.hid (below_cell t1.below X9.out))
          | (with_reducible refine (kR v1 A1 c1 rL hc1 hm1).mono ?_
             rintro e v2 ⟨rfl, b2⟩
             have xR := Lib.hid (below_cell b2 xL.out)
             have yR := yL.trans (b2.mono yL.size))
          | (with_reducible refine (kR v1 A1 c1 rL hc1 hm1).mono ?_
             rintro e v2 ⟨rfl, b2⟩
             have yR := yL.trans (b2.mono yL.size))
          | (with_reducible refine (kR (v1.alloc (.cells #[.int .u8 (m : Int)] 5)) A1 c1 (rL.alloc _) hc1 hm1).mono ?_
             rintro e v2 ⟨rfl, b2⟩
             have xR := Lib.hid (below_cell b2 ((Blk.new v1 5 #[.int .u8 (m : Int)]).cell 0))
             have yR := (yL.alloc yL.size (.cells #[.int .u8 (m : Int)] 5)).trans (b2.mono (yL.alloc yL.size (.cells #[.int .u8 (m : Int)] 5)).size))
          | (refine stepV 54 9 _ (by rfl) (by rfl) (by rfl) (HU.out.2 _ _ xR.out) ?_)
          | (refine stepV 54 9 _ (by rfl) (by rfl) (by rfl) (HU.out.2 _ _ xL.out) ?_)
          | (refine stepV 54 9 _ (by rfl) (by rfl) (by rfl) (HU.out.2 _ _ X9.out) ?_)
          | (refine stepV 54 9 _ (by rfl) (by rfl) (by rfl) (HU.out.2 _ _ ((Blk.new v1 5 #[.int .u8 (m : Int)]).cell 0)) ?_)
          | (refine stepV 54 9 _ (by rfl) (by rfl) (by rfl) (HU.out.2 _ _ ((Blk.new v2 5 #[.int .u8 (m : Int)]).cell 0)) ?_)
          | fail); go_wp2_with fail
    refine hK.out _ _ ?_ (fun hH15 => ?_)
    · (first
        | exact HB.out.1 _ y0
        | exact HB.out.1 _ y9
        | exact HB.out.1 _ yL
        | exact HB.out.1 _ (yL.alloc yL.size _)
        | exact HB.out.1 _ yR
        | exact HB.out.1 _ (yR.alloc yR.size _)
        | fail)
    clear hK K hH14
    try simp only [Act.put, List.setIfInBounds_toArray, List.set_cons_zero, List.set_cons_succ]
    refine wpAnyH_take (i := 8) (oi := ⟨some 19, _, _, _, _, _⟩) (v := ?_) rfl (by kernel_rfl) (by kernel_rfl) (by kernel_rfl) (fun _ _ _ h => h) (Or.inl ⟨by rfl, ?_⟩) hH15 ?_
    rotate_left 1
    · intro w hSw; (try dsimp only at hSw); go_simp; with_reducible rfl
    try simp only [Act.put, List.setIfInBounds_toArray, List.set_cons_zero, List.set_cons_succ]
    refine wpAnyH_take (i := 9) (oi := ⟨some 2, _, _, _, _, _⟩) (v := ?_) rfl (by kernel_rfl) (by kernel_rfl) (by kernel_rfl) (fun _ _ _ h => h) (Or.inl ⟨by rfl, ?_⟩) hH15 ?_
    rotate_left 1
    · intro w hSw; (try dsimp only at hSw); go_simp; with_reducible rfl
    try simp only [Act.put, List.setIfInBounds_toArray, List.set_cons_zero, List.set_cons_succ]
    refine wpAnyH_take (i := 10) (oi := ⟨some 3, _, _, _, _, _⟩) (v := ?_) rfl (by kernel_rfl) (by kernel_rfl) (by kernel_rfl) (fun _ _ _ h => h) (Or.inl ⟨by rfl, ?_⟩) hH15 ?_
    rotate_left 1
    · intro w hSw; (try dsimp only at hSw); go_simp; with_reducible rfl
    try simp only [Act.put, List.setIfInBounds_toArray, List.set_cons_zero, List.set_cons_succ]
    refine wpAnyH_done (by kernel_rfl) ?_ _
    rotate_left 1
    refine AllReadyH.cons (o := ⟨some 18, _, _, _, _, _⟩) rfl (fun K hK => ?_) AllReadyH.nil
    (first
          | (with_reducible refine (kL w1.drew).mono ?_
             rintro e v1 ⟨A1, c1, rfl, hc1, hm1, t1⟩
             have yL := y0.trans (t1.below.mono y0.size)
             have rL := Rd.of_own t1.own)
          | (with_reducible refine (kL (w1.alloc (.cells #[.int .u8 (m : Int)] 5)).drew).mono ?_
             rintro e v1 ⟨A1, c1, rfl, hc1, hm1, t1⟩
             have yL := y9.trans (t1.below.mono y9.size)
             have rL := Rd.of_own t1.own
             have xL := Lib.hid (below_cell t1.below X9.out))
          | (with_reducible refine (kR v1 A1 c1 rL hc1 hm1).mono ?_
             rintro e v2 ⟨rfl, b2⟩
             have xR := Lib.hid (below_cell b2 xL.out)
             have yR := yL.trans (b2.mono yL.size))
          | (with_reducible refine (kR v1 A1 c1 rL hc1 hm1).mono ?_
             rintro e v2 ⟨rfl, b2⟩
             have yR := yL.trans (b2.mono yL.size))
          | (with_reducible refine (kR (v1.alloc (.cells #[.int .u8 (m : Int)] 5)) A1 c1 (rL.alloc _) hc1 hm1).mono ?_
             rintro e v2 ⟨rfl, b2⟩
             have xR := Lib.hid (below_cell b2 ((Blk.new v1 5 #[.int .u8 (m : Int)]).cell 0))
             have yR := (yL.alloc yL.size (.cells #[.int .u8 (m : Int)] 5)).trans (b2.mono (yL.alloc yL.size (.cells #[.int .u8 (m : Int)] 5)).size))
          | (refine stepV 54 9 _ (by rfl) (by rfl) (by rfl) (HU.out.2 _ _ xR.out) ?_)
          | (refine stepV 54 9 _ (by rfl) (by rfl) (by rfl) (HU.out.2 _ _ xL.out) ?_)
          | (refine stepV 54 9 _ (by rfl) (by rfl) (by rfl) (HU.out.2 _ _ X9.out) ?_)
          | (refine stepV 54 9 _ (by rfl) (by rfl) (by rfl) (HU.out.2 _ _ ((Blk.new v1 5 #[.int .u8 (m : Int)]).cell 0)) ?_)
          | (refine stepV 54 9 _ (by rfl) (by rfl) (by rfl) (HU.out.2 _ _ ((Blk.new v2 5 #[.int .u8 (m : Int)]).cell 0)) ?_)
          | fail)
    refine hK.out _ _ ?_ (fun hH16 => ?_)
    · (first
        | exact HB.out.1 _ y0
        | exact HB.out.1 _ y9
        | exact HB.out.1 _ yL
        | exact HB.out.1 _ (yL.alloc yL.size _)
        | exact HB.out.1 _ yR
        | exact HB.out.1 _ (yR.alloc yR.size _)
        | fail)
    clear hK K hH10
    try simp only [Act.put, List.setIfInBounds_toArray, List.set_cons_zero, List.set_cons_succ]
    refine wpAnyH_ready (rs := [1]) (by kernel_rfl) (by simp) ?_
    refine AllReadyH.cons (o := ⟨some 12, _, _, _, _, _⟩) rfl (fun K hK => ?_) AllReadyH.nil
    go_simp; (first
          | (with_reducible refine (kL w1.drew).mono ?_
             rintro e v1 ⟨A1, c1, rfl, hc1, hm1, t1⟩
             have yL := y0.trans (t1.below.mono y0.size)
             have rL := Rd.of_own t1.own)
          | (with_reducible refine (kL (w1.alloc (.cells #[.int .u8 (m : Int)] 5)).drew).mono ?_
             rintro e v1 ⟨A1, c1, rfl, hc1, hm1, t1⟩
             have yL := y9.trans (t1.below.mono y9.size)
             have rL := Rd.of_own t1.own
             have xL := Lib.hid (below_cell t1.below X9.out))
          | (with_reducible refine (kR v1 A1 c1 rL hc1 hm1).mono ?_
             rintro e v2 ⟨rfl, b2⟩
             have xR := Lib.hid (below_cell b2 xL.out)
             have yR := yL.trans (b2.mono yL.size))
          | (with_reducible refine (kR v1 A1 c1 rL hc1 hm1).mono ?_
             rintro e v2 ⟨rfl, b2⟩
             have yR := yL.trans (b2.mono yL.size))
          | (with_reducible refine (kR (v1.alloc (.cells #[.int .u8 (m : Int)] 5)) A1 c1 (rL.alloc _) hc1 hm1).mono ?_
             rintro e v2 ⟨rfl, b2⟩
             have xR := Lib.hid (below_cell b2 ((Blk.new v1 5 #[.int .u8 (m : Int)]).cell 0))
             have yR := (yL.alloc yL.size (.cells #[.int .u8 (m : Int)] 5)).trans (b2.mono (yL.alloc yL.size (.cells #[.int .u8 (m : Int)] 5)).size))
          | (refine stepV 54 9 _ (by rfl) (by rfl) (by rfl) (HU.out.2 _ _ xR.out) ?_)
          | (refine stepV 54 9 _ (by rfl) (by rfl) (by rfl) (HU.out.2 _ _ xL.out) ?_)
          | (refine stepV 54 9 _ (by rfl) (by rfl) (by rfl) (HU.out.2 _ _ X9.out) ?_)
          | (refine stepV 54 9 _ (by rfl) (by rfl) (by rfl) (HU.out.2 _ _ ((Blk.new v1 5 #[.int .u8 (m : Int)]).cell 0)) ?_)
          | (refine stepV 54 9 _ (by rfl) (by rfl) (by rfl) (HU.out.2 _ _ ((Blk.new v2 5 #[.int .u8 (m : Int)]).cell 0)) ?_)
          | fail); go_wp2_with fail
    refine hK.out _ _ ?_ (fun hH17 => ?_)
    · (first
        | exact HB.out.1 _ y0
        | exact HB.out.1 _ y9
        | exact HB.out.1 _ yL
        | exact HB.out.1 _ (yL.alloc yL.size _)
        | exact HB.out.1 _ yR
        | exact HB.out.1 _ (yR.alloc yR.size _)
        | fail)
    clear hK K hH16
    try simp only [Act.put, List.setIfInBounds_toArray, List.set_cons_zero, List.set_cons_succ]
    refine wpAnyH_ready (rs := [2]) (by kernel_rfl) (by simp) ?_
    refine AllReadyH.cons (o := ⟨some 13, _, _, _, _, _⟩) rfl (fun K hK => ?_) AllReadyH.nil
    go_simp; (first
          | (with_reducible refine (kL w1.drew).mono ?_
             rintro e v1 ⟨A1, c1, rfl, hc1, hm1, t1⟩
             have yL := y0.trans (t1.below.mono y0.size)
             have rL := Rd.of_own t1.own)
          | (with_reducible refine (kL (w1.alloc (.cells #[.int .u8 (m : Int)] 5)).drew).mono ?_
             rintro e v1 ⟨A1, c1, rfl, hc1, hm1, t1⟩
             have yL := y9.trans (t1.below.mono y9.size)
             have rL := Rd.of_own t1.own
             have xL := Lib.hid (below_cell t1.below X9.out))
          | (with_reducible refine (kR v1 A1 c1 rL hc1 hm1).mono ?_
             rintro e v2 ⟨rfl, b2⟩
             have xR := Lib.hid (below_cell b2 xL.out)
             have yR := yL.trans (b2.mono yL.size))
          | (with_reducible refine (kR v1 A1 c1 rL hc1 hm1).mono ?_
             rintro e v2 ⟨rfl, b2⟩
             have yR := yL.trans (b2.mono yL.size))
          | (with_reducible refine (kR (v1.alloc (.cells #[.int .u8 (m : Int)] 5)) A1 c1 (rL.alloc _) hc1 hm1).mono ?_
             rintro e v2 ⟨rfl, b2⟩
             have xR := Lib.hid (below_cell b2 ((Blk.new v1 5 #[.int .u8 (m : Int)]).cell 0))
             have yR := (yL.alloc yL.size (.cells #[.int .u8 (m : Int)] 5)).trans (b2.mono (yL.alloc yL.size (.cells #[.int .u8 (m : Int)] 5)).size))
          | (refine stepV 54 9 _ (by rfl) (by rfl) (by rfl) (HU.out.2 _ _ xR.out) ?_)
          | (refine stepV 54 9 _ (by rfl) (by rfl) (by rfl) (HU.out.2 _ _ xL.out) ?_)
          | (refine stepV 54 9 _ (by rfl) (by rfl) (by rfl) (HU.out.2 _ _ X9.out) ?_)
          | (refine stepV 54 9 _ (by rfl) (by rfl) (by rfl) (HU.out.2 _ _ ((Blk.new v1 5 #[.int .u8 (m : Int)]).cell 0)) ?_)
          | (refine stepV 54 9 _ (by rfl) (by rfl) (by rfl) (HU.out.2 _ _ ((Blk.new v2 5 #[.int .u8 (m : Int)]).cell 0)) ?_)
          | fail); go_wp2_with fail
    refine hK.out _ _ ?_ (fun hH18 => ?_)
    · (first
        | exact HB.out.1 _ y0
        | exact HB.out.1 _ y9
        | exact HB.out.1 _ yL
        | exact HB.out.1 _ (yL.alloc yL.size _)
        | exact HB.out.1 _ yR
        | exact HB.out.1 _ (yR.alloc yR.size _)
        | fail)
    clear hK K hH17
    try simp only [Act.put, List.setIfInBounds_toArray, List.set_cons_zero, List.set_cons_succ]
    refine wpAnyH_take (i := 8) (oi := ⟨some 19, _, _, _, _, _⟩) (v := ?_) rfl (by kernel_rfl) (by kernel_rfl) (by kernel_rfl) (fun _ _ _ h => h) (Or.inl ⟨by rfl, ?_⟩) hH18 ?_
    rotate_left 1
    · intro w hSw; (try dsimp only at hSw); go_simp; with_reducible rfl
    try simp only [Act.put, List.setIfInBounds_toArray, List.set_cons_zero, List.set_cons_succ]
    refine wpAnyH_take (i := 9) (oi := ⟨some 2, _, _, _, _, _⟩) (v := ?_) rfl (by kernel_rfl) (by kernel_rfl) (by kernel_rfl) (fun _ _ _ h => h) (Or.inl ⟨by rfl, ?_⟩) hH18 ?_
    rotate_left 1
    · intro w hSw; (try dsimp only at hSw); go_simp; with_reducible rfl
    try simp only [Act.put, List.setIfInBounds_toArray, List.set_cons_zero, List.set_cons_succ]
    refine wpAnyH_take (i := 10) (oi := ⟨some 3, _, _, _, _, _⟩) (v := ?_) rfl (by kernel_rfl) (by kernel_rfl) (by kernel_rfl) (fun _ _ _ h => h) (Or.inl ⟨by rfl, ?_⟩) hH18 ?_
    rotate_left 1
    · intro w hSw; (try dsimp only at hSw); go_simp; with_reducible rfl
    try simp only [Act.put, List.setIfInBounds_toArray, List.set_cons_zero, List.set_cons_succ]
    refine wpAnyH_done (by kernel_rfl) ?_ _
    all_goals (refine NoPanic.normal ?_)
    all_goals
      go_wp2
      go_ret2
      first
        | exact ⟨rfl, b0.trans (yR.mono b0.size)⟩
        | exact ⟨rfl, b0.trans ((yR.alloc yR.size _).mono b0.size)⟩
set_option maxRecDepth 20000 in
set_option maxHeartbeats 4000000 in
theorem rskip_spec (seed : Sg.Str) (h n c : Int) (w : World) :
    Calls Tryz.prog 16 #[.agg #[.string ⟨seed.toArray⟩, .int .i64 h, .int .i64 n], .int .i64 c] w fun e w' => e = .returned (.tuple #[.agg (keyA (skipR seed h n c).1.1 (skipR seed h n c).1.2.1 (skipR seed h n c).1.2.2), .int .i64 (skipR seed h n c).2]) ∧ Below w.heap.size w w' := by
  obtain ⟨W0, hW0⟩ : ∃ W0, w.alloc (.cells #[.string ⟨seed.toArray⟩, .int .i64 h, .int .i64 n] 28) = W0 := ⟨_, rfl⟩
  have hs0 : W0.heap.size = w.heap.size + 1 := by rw [← hW0]; simp
  obtain ⟨W, hW⟩ : ∃ W, W0.alloc (.cells #[.string ⟨#[]⟩, .int .i64 0, .int .i64 0] 28) = W := ⟨_, rfl⟩
  have b0 : Below w.heap.size w W := by rw [← hW, ← hW0]; exact ((Below.refl _ w).alloc (Nat.le_refl _) _).alloc (by simp) _
  have bk : Blk W w.heap.size 28 #[.string ⟨seed.toArray⟩, .int .i64 h, .int .i64 n] := by rw [← hW, ← hW0]; exact (Blk.new w _ _).alloc _
  have br : Blk W (w.heap.size + 1) 28 #[.string ⟨#[]⟩, .int .i64 0, .int .i64 0] := by rw [← hW, ← hs0]; exact Blk.new W0 _ _
  have kt := kvalid_ref seed h n W
  unfold skipR
  have c0 := bk.cell 0
  have c1 := bk.cell 1
  have c2 := bk.cell 2
  have HB := Lib.hid (And.intro b0 (And.intro bk br))
  cases hv : validB seed h n with
  | false =>
    rw [hv] at kt
    rw [if_neg (by simp)]
    clear b0 bk br
    go_enter Tryz.func16, Tryz.ntmps16
    go_wp2_with fail
    refine kt.mono ?_
    rintro e w1 ⟨rfl, b1⟩
    have r1 := HB.out.2.2.below b1
    have d0 := r1.cell 0
    have d1 := r1.cell 1
    have d2 := r1.cell 2
    have e0 := r1.frozen 0
    have e1 := r1.frozen 1
    have e2 := r1.frozen 2
    have HR := Lib.hid (And.intro r1 b1)
    clear r1 b1 c0 c1 c2 kt
    go_wp2
    refine bodyPost_ret (results_ct rfl _ _ _ _ _ _ _ rfl (((HR.out.1.set_ 0 _).set_ 1 _).set_ 2 _) Tryz.underlying28 rfl size_key) rfl ?_
    exact ⟨rfl, (((HB.out.1.trans (HR.out.2.mono HB.out.1.size)).setCell (p := ⟨w.heap.size + 1, 0, none⟩) (by simp) _).setCell (p := ⟨w.heap.size + 1, 1, none⟩) (by simp) _).setCell (p := ⟨w.heap.size + 1, 2, none⟩) (by simp) _⟩
  | true =>
    rw [hv] at kt
    rw [if_pos rfl]
    have hv' := hv
    unfold validB at hv'
    simp only [Bool.and_eq_true, decide_eq_true_eq] at hv'
    obtain ⟨ht, hn0, hn1⟩ := hv'
    obtain ⟨_, m, rfl, hm⟩ := treeB_parts ht
    rw [Int.toNat_natCast] at hn1 ⊢
    obtain ⟨P, hP⟩ : ∃ P, 2 ^ m = P := ⟨_, rfl⟩
    obtain ⟨h5, h6⟩ := shl_facts m P hm hP
    have hP6 := pow6 hm
    rw [hP] at hn1 hP6 ⊢
    obtain ⟨q, rfl⟩ : ∃ q : Nat, n = (q : Int) := ⟨n.toNat, by omega⟩
    have es : wrap64 ((P : Int) - (q : Int)) = (P : Int) - (q : Int) := IntWalk.wrap64_in _ (by omega)
    have es' : IntKind.i64.wrap ((P : Int) - (q : Int)) = (P : Int) - (q : Int) := by rw [IntKind.wrap_i64]; omega
    clear b0 bk br hv ht hn0
    by_cases h1 : 0 ≤ c
    · rw [if_pos h1]
      have h1' : ¬ (c < 0) := by omega
      by_cases h2 : c ≤ (P : Int) - (q : Int)
      · rw [if_pos h2]
        have h2' : ¬ ((P : Int) - (q : Int) < c) := by omega
        have h3' : decide (c ≤ (P : Int) - (q : Int)) = true := decide_eq_true h2
        have ea : wrap64 ((q : Int) + c) = (q : Int) + c := IntWalk.wrap64_in _ (by omega)
        have ea' : IntKind.i64.wrap ((q : Int) + c) = (q : Int) + c := by rw [IntKind.wrap_i64]; omega
        go_enter Tryz.func16, Tryz.ntmps16
        go_wp2_with fail
        refine kt.mono ?_
        rintro e w1 ⟨rfl, b1⟩
        have k1 := HB.out.2.1.below b1
        have r1 := HB.out.2.2.below b1
        have d0 := r1.cell 0
        have d1 := r1.cell 1
        have d2 := r1.cell 2
        have e0 := r1.frozen 0
        have e1 := r1.frozen 1
        have e2 := r1.frozen 2
        have l0 := k1.cell 0
        have l1 := k1.cell 1
        have l2 := k1.cell 2
        have p2 := (k1.alloc (.cells #[.string ⟨seed.toArray⟩, .int .i64 (m : Int), .int .i64 (q : Int)] 28)).cell 2
        have r2 := r1.alloc (.cells #[.string ⟨seed.toArray⟩, .int .i64 (m : Int), .int .i64 ((q : Int) + c)] 28)
        have p3 := r2.cell 0
        have p4 := r2.cell 1
        have p5 := r2.cell 2
        have p6 := r2.frozen 0
        have p7 := r2.frozen 1
        have p8 := r2.frozen 2
        have HR := Lib.hid (And.intro r2 (b1.alloc b1.size (.cells #[.string ⟨seed.toArray⟩, .int .i64 (m : Int), .int .i64 ((q : Int) + c)] 28)))
        clear r1 r2 b1 c0 c1 c2 kt k1
        go_wp2_with fail
        refine wp_region_noPanic ?_
        refine wp_region_held_drew (S := (fun w' => w'.cell? ⟨w.heap.size, 1, none⟩ = some (.int .i64 (m : Int)) ∧ w'.cell? ⟨w.heap.size, 2, none⟩ = some (.int .i64 (q : Int)))) (by kernel_rfl) ?_ (fun hH0 => ?_)
        · (first
            | exact ⟨l1, l2⟩
            | fail)
        refine wpAnyH_take (i := 0) (oi := ⟨some 14, _, _, _, _, _⟩) (v := ?_) rfl (by kernel_rfl) (by kernel_rfl) (by kernel_rfl) (fun _ _ _ h => h) (Or.inl ⟨by rfl, ?_⟩) hH0 ?_
        rotate_left 1
        · intro w hSw; (try dsimp only at hSw); go_simp; with_reducible rfl
        try simp only [Act.put, List.setIfInBounds_toArray, List.set_cons_zero, List.set_cons_succ]
        refine wpAnyH_take (i := 1) (oi := ⟨some 15, _, _, _, _, _⟩) (v := ?_) rfl (by kernel_rfl) (by kernel_rfl) (by kernel_rfl) (fun _ _ _ h => h) (Or.inl ⟨by rfl, ?_⟩) hH0 ?_
        rotate_left 1
        · intro w hSw; (try dsimp only at hSw); go_simp; with_reducible rfl
        try simp only [Act.put, List.setIfInBounds_toArray, List.set_cons_zero, List.set_cons_succ]
        refine wpAnyH_take (i := 2) (oi := ⟨some 16, _, _, _, _, _⟩) (v := ?_) rfl (by kernel_rfl) (by kernel_rfl) (by kernel_rfl) (fun _ _ _ h => h) (Or.inl ⟨by rfl, ?_⟩) hH0 ?_
        rotate_left 1
        · intro w hSw; (try dsimp only at hSw); go_simp; with_reducible rfl
        try simp only [Act.put, List.setIfInBounds_toArray, List.set_cons_zero, List.set_cons_succ]
        refine wpAnyH_take (i := 3) (oi := ⟨some 17, _, _, _, _, _⟩) (v := ?_) rfl (by kernel_rfl) (by kernel_rfl) (by kernel_rfl) (fun _ _ _ h => h) (Or.inl ⟨by rfl, ?_⟩) hH0 ?_
        rotate_left 1
        · intro w hSw; (try dsimp only at hSw); go_simp; with_reducible rfl
        try simp only [Act.put, List.setIfInBounds_toArray, List.set_cons_zero, List.set_cons_succ]
        refine wpAnyH_take (i := 4) (oi := ⟨some 18, _, _, _, _, _⟩) (v := ?_) rfl (by kernel_rfl) (by kernel_rfl) (by kernel_rfl) (fun _ _ _ h => h) (Or.inl ⟨by rfl, ?_⟩) hH0 ?_
        rotate_left 1
        · intro w hSw; (try dsimp only at hSw); go_simp; with_reducible rfl
        try simp only [Act.put, List.setIfInBounds_toArray, List.set_cons_zero, List.set_cons_succ]
        refine wpAnyH_take (i := 5) (oi := ⟨some 19, _, _, _, _, _⟩) (v := ?_) rfl (by kernel_rfl) (by kernel_rfl) (by kernel_rfl) (fun _ _ _ h => h) (Or.inl ⟨by rfl, ?_⟩) hH0 ?_
        rotate_left 1
        · intro w hSw; (try dsimp only at hSw); go_simp; with_reducible rfl
        try simp only [Act.put, List.setIfInBounds_toArray, List.set_cons_zero, List.set_cons_succ]
        refine wpAnyH_take (i := 6) (oi := ⟨some 20, _, _, _, _, _⟩) (v := ?_) rfl (by kernel_rfl) (by kernel_rfl) (by kernel_rfl) (fun _ _ _ h => h) (Or.inl ⟨by rfl, ?_⟩) hH0 ?_
        rotate_left 1
        · intro w hSw; (try dsimp only at hSw); go_simp; with_reducible rfl
        try simp only [Act.put, List.setIfInBounds_toArray, List.set_cons_zero, List.set_cons_succ]
        refine wpAnyH_take (i := 7) (oi := ⟨some 21, _, _, _, _, _⟩) (v := ?_) rfl (by kernel_rfl) (by kernel_rfl) (by kernel_rfl) (fun _ _ _ h => h) (Or.inl ⟨by rfl, ?_⟩) hH0 ?_
        rotate_left 1
        · intro w hSw; (try dsimp only at hSw); go_simp; with_reducible rfl
        try simp only [Act.put, List.setIfInBounds_toArray, List.set_cons_zero, List.set_cons_succ]
        refine wpAnyH_done (by kernel_rfl) ?_ _
        all_goals (refine NoPanic.normal ?_)
        go_wp2
        refine bodyPost_ret (results_ct rfl _ _ _ _ _ _ _ rfl (((HR.out.1.set_ 0 _).set_ 1 _).set_ 2 _) Tryz.underlying28 rfl size_key) rfl ?_
        exact ⟨rfl, ((((HB.out.1.trans (HR.out.2.mono HB.out.1.size)).setCell (p := ⟨w.heap.size + 1, 0, none⟩) (by simp) _).setCell (p := ⟨w.heap.size + 1, 1, none⟩) (by simp) _).setCell (p := ⟨w.heap.size + 1, 2, none⟩) (by simp) _).drew⟩
      · rw [if_neg h2]
        have h2' : (P : Int) - (q : Int) < c := by omega
        have h3' : decide (c ≤ (P : Int) - (q : Int)) = false := decide_eq_false h2
        go_enter Tryz.func16, Tryz.ntmps16
        go_wp2_with fail
        refine kt.mono ?_
        rintro e w1 ⟨rfl, b1⟩
        have k1 := HB.out.2.1.below b1
        have r1 := HB.out.2.2.below b1
        have d0 := r1.cell 0
        have d1 := r1.cell 1
        have d2 := r1.cell 2
        have e0 := r1.frozen 0
        have e1 := r1.frozen 1
        have e2 := r1.frozen 2
        have l1 := k1.cell 1
        have l2 := k1.cell 2
        have HR := Lib.hid (And.intro r1 b1)
        clear r1 b1 c0 c1 c2 kt k1
        go_wp2_with fail
        refine wp_region_noPanic ?_
        refine wp_region_held_drew (S := (fun w' => w'.cell? ⟨w.heap.size, 1, none⟩ = some (.int .i64 (m : Int)) ∧ w'.cell? ⟨w.heap.size, 2, none⟩ = some (.int .i64 (q : Int)))) (by kernel_rfl) ?_ (fun hH0 => ?_)
        · (first
            | exact ⟨l1, l2⟩
            | fail)
        refine wpAnyH_take (i := 0) (oi := ⟨some 14, _, _, _, _, _⟩) (v := ?_) rfl (by kernel_rfl) (by kernel_rfl) (by kernel_rfl) (fun _ _ _ h => h) (Or.inl ⟨by rfl, ?_⟩) hH0 ?_
        rotate_left 1
        · intro w hSw; (try dsimp only at hSw); go_simp; with_reducible rfl
        try simp only [Act.put, List.setIfInBounds_toArray, List.set_cons_zero, List.set_cons_succ]
        refine wpAnyH_take (i := 1) (oi := ⟨some 15, _, _, _, _, _⟩) (v := ?_) rfl (by kernel_rfl) (by kernel_rfl) (by kernel_rfl) (fun _ _ _ h => h) (Or.inl ⟨by rfl, ?_⟩) hH0 ?_
        rotate_left 1
        · intro w hSw; (try dsimp only at hSw); go_simp; with_reducible rfl
        try simp only [Act.put, List.setIfInBounds_toArray, List.set_cons_zero, List.set_cons_succ]
        refine wpAnyH_take (i := 2) (oi := ⟨some 16, _, _, _, _, _⟩) (v := ?_) rfl (by kernel_rfl) (by kernel_rfl) (by kernel_rfl) (fun _ _ _ h => h) (Or.inl ⟨by rfl, ?_⟩) hH0 ?_
        rotate_left 1
        · intro w hSw; (try dsimp only at hSw); go_simp; with_reducible rfl
        try simp only [Act.put, List.setIfInBounds_toArray, List.set_cons_zero, List.set_cons_succ]
        refine wpAnyH_take (i := 3) (oi := ⟨some 17, _, _, _, _, _⟩) (v := ?_) rfl (by kernel_rfl) (by kernel_rfl) (by kernel_rfl) (fun _ _ _ h => h) (Or.inl ⟨by rfl, ?_⟩) hH0 ?_
        rotate_left 1
        · intro w hSw; (try dsimp only at hSw); go_simp; with_reducible rfl
        try simp only [Act.put, List.setIfInBounds_toArray, List.set_cons_zero, List.set_cons_succ]
        refine wpAnyH_take (i := 4) (oi := ⟨some 18, _, _, _, _, _⟩) (v := ?_) rfl (by kernel_rfl) (by kernel_rfl) (by kernel_rfl) (fun _ _ _ h => h) (Or.inl ⟨by rfl, ?_⟩) hH0 ?_
        rotate_left 1
        · intro w hSw; (try dsimp only at hSw); go_simp; with_reducible rfl
        try simp only [Act.put, List.setIfInBounds_toArray, List.set_cons_zero, List.set_cons_succ]
        refine wpAnyH_take (i := 5) (oi := ⟨some 19, _, _, _, _, _⟩) (v := ?_) rfl (by kernel_rfl) (by kernel_rfl) (by kernel_rfl) (fun _ _ _ h => h) (Or.inl ⟨by rfl, ?_⟩) hH0 ?_
        rotate_left 1
        · intro w hSw; (try dsimp only at hSw); go_simp; with_reducible rfl
        try simp only [Act.put, List.setIfInBounds_toArray, List.set_cons_zero, List.set_cons_succ]
        refine wpAnyH_take (i := 6) (oi := ⟨some 20, _, _, _, _, _⟩) (v := ?_) rfl (by kernel_rfl) (by kernel_rfl) (by kernel_rfl) (fun _ _ _ h => h) (Or.inl ⟨by rfl, ?_⟩) hH0 ?_
        rotate_left 1
        · intro w hSw; (try dsimp only at hSw); go_simp; with_reducible rfl
        try simp only [Act.put, List.setIfInBounds_toArray, List.set_cons_zero, List.set_cons_succ]
        refine wpAnyH_take (i := 7) (oi := ⟨some 21, _, _, _, _, _⟩) (v := ?_) rfl (by kernel_rfl) (by kernel_rfl) (by kernel_rfl) (fun _ _ _ h => h) (Or.inl ⟨by rfl, ?_⟩) hH0 ?_
        rotate_left 1
        · intro w hSw; (try dsimp only at hSw); go_simp; with_reducible rfl
        try simp only [Act.put, List.setIfInBounds_toArray, List.set_cons_zero, List.set_cons_succ]
        refine wpAnyH_done (by kernel_rfl) ?_ _
        all_goals (refine NoPanic.normal ?_)
        go_wp2
        refine bodyPost_ret (results_ct rfl _ _ _ _ _ _ _ rfl (((HR.out.1.set_ 0 _).set_ 1 _).set_ 2 _) Tryz.underlying28 rfl size_key) rfl ?_
        exact ⟨rfl, ((((HB.out.1.trans (HR.out.2.mono HB.out.1.size)).setCell (p := ⟨w.heap.size + 1, 0, none⟩) (by simp) _).setCell (p := ⟨w.heap.size + 1, 1, none⟩) (by simp) _).setCell (p := ⟨w.heap.size + 1, 2, none⟩) (by simp) _).drew⟩
    · rw [if_neg h1]
      have h1' : c < 0 := by omega
      go_enter Tryz.func16, Tryz.ntmps16
      go_wp2_with fail
      refine kt.mono ?_
      rintro e w1 ⟨rfl, b1⟩
      have r1 := HB.out.2.2.below b1
      have d0 := r1.cell 0
      have d1 := r1.cell 1
      have d2 := r1.cell 2
      have e0 := r1.frozen 0
      have e1 := r1.frozen 1
      have e2 := r1.frozen 2
      have HR := Lib.hid (And.intro r1 b1)
      clear r1 b1 c0 c1 c2 kt
      go_wp2
      refine bodyPost_ret (results_ct rfl _ _ _ _ _ _ _ rfl (((HR.out.1.set_ 0 _).set_ 1 _).set_ 2 _) Tryz.underlying28 rfl size_key) rfl ?_
      exact ⟨rfl, (((HB.out.1.trans (HR.out.2.mono HB.out.1.size)).setCell (p := ⟨w.heap.size + 1, 0, none⟩) (by simp) _).setCell (p := ⟨w.heap.size + 1, 1, none⟩) (by simp) _).setCell (p := ⟨w.heap.size + 1, 2, none⟩) (by simp) _⟩
end Go.Proofs.YtnlpakalcckaiaaGreat
