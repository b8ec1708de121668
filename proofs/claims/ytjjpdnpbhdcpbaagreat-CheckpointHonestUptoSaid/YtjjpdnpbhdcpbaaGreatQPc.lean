/- Lemmas and contracts on what the walks need, several small texts in one. Conditions: as each theorem states. -/
import Derived.Test.YtjjpdnpbhdcpbaaGreatQSgL
import Derived.Test.YtjjpdnpbhdcpbaaGreatQPb
import Derived.Test.YtjjpdnpbhdcpbaaGreatQBase
import Derived.Test.YtjjpdnpbhdcpbaaGreatQMkB
import Derived.Test.YtjjpdnpbhdcpbaaGreatQCdA
import Derived.Test.YtjjpdnpbhdcpbaaGreatQCdB
namespace Go.Proofs.YtjjpdnpbhdcpbaaGreat
set_option linter.unusedVariables false
open Go.RowKit Go.Shelf
attribute [local go_sem] Oper.semAt_some
theorem validB_zero (seed : Sg.Str) (h : Int) : validB seed h 0 = treeB seed h := by
 unfold validB
 rw [decide_eq_true (Int.le_refl 0), decide_eq_true (Int.natCast_nonneg _), Bool.and_self, Bool.and_true]
set_option maxRecDepth 20000 in
set_option maxHeartbeats 4000000 in
theorem rpublic_spec (seed : Sg.Str) (h n : Int) (w : World) (hs : seed.length ≤ 1073741824) :
 Calls Tryz.prog 44 #[.agg #[.string ⟨seed.toArray⟩, .int .i64 h, .int .i64 n]] w fun e w' => e = .returned (.tuple #[.string ⟨(pubR seed h).1.toArray⟩, .int .i64 (pubR seed h).2]) ∧ Below w.heap.size w w' := by
 obtain ⟨W, hW⟩ : ∃ W, w.alloc (.cells #[.string ⟨seed.toArray⟩, .int .i64 h, .int .i64 n] 23) = W := ⟨_, rfl⟩
 have b0 : Below w.heap.size w W := by rw [← hW]; exact (Below.refl _ w).alloc (Nat.le_refl _) _
 have bl : Blk W w.heap.size 23 #[.string ⟨seed.toArray⟩, .int .i64 h, .int .i64 n] := by rw [← hW]; exact Blk.new w _ _
 have hcell : ∀ W', Below W.heap.size W W' → W'.cell? ⟨w.heap.size, 0, none⟩ = some (.string ⟨seed.toArray⟩) ∧ W'.cell? ⟨w.heap.size, 1, none⟩ = some (.int .i64 h) ∧ W'.cell? ⟨w.heap.size, 2, none⟩ = some (.int .i64 n) := fun W' hb => ⟨below_cell hb (bl.cell 0), below_cell hb (bl.cell 1), below_cell hb (bl.cell 2)⟩
 have kt := kvalid_ref seed h 0 W
 rw [validB_zero] at kt
 obtain ⟨c0, c1, c2⟩ := hcell _ (Below.refl _ _)
 have HB := Lib.hid (And.intro hcell b0)
 clear hcell bl
 unfold pubR
 cases ht : treeB seed h with
 | false =>
   rw [ht] at kt
   rw [if_neg (by simp)]
   clear ht
   go_enter Tryz.func44, Tryz.ntmps44
   go_wp2_with fail
   refine kt.mono ?_
   rintro e w1 ⟨rfl, b1⟩
   go_wp2
   go_ret2
   exact ⟨rfl, b0.trans (b1.mono b0.size)⟩
 | true =>
   rw [ht] at kt
   rw [if_pos rfl]
   obtain ⟨hsl, m, rfl, hm⟩ := treeB_parts ht
   rw [Int.toNat_natCast]
   have hP6 := pow6 hm
   have hll := Sg.lvs_len seed (2 ^ m)
   have hrt := root_lvs seed m hm
   have hpk : pubK seed m = Mk.root (Sg.lvs seed (2 ^ m)) ++ [UInt8.ofNat m] := rfl
   have hrl := Mk.rootD (Sg.lvs_dig seed (2 ^ m))
   have kL : ∀ W', Calls Tryz.prog 90 #[.agg #[.string ⟨seed.toArray⟩, .int .i64 (m : Int), .int .i64 n]] W' (KlP (Sg.lvs seed (2 ^ m)) (2 ^ m) W') := fun W' => by
    have := rleaves_spec seed m n W' hs hm
    unfold SlR at this
    rw [hll] at this
    exact this
   have kR : ∀ W' A c, Rd W' A (strs (Sg.lvs seed (2 ^ m))) → 2 ^ m ≤ c → c ≤ maxLen → Calls Tryz.prog 46 #[.slice A (2 ^ m) c] W' fun e w' => e = .returned (.string ⟨(Mk.root (Sg.lvs seed (2 ^ m))).toArray⟩) ∧ Below W'.heap.size W' w' := fun W' A c h1 h2 h3 => by
    have := root_rk A (Sg.lvs seed (2 ^ m)) c W' h1 (by omega) (by omega) h3
    rw [hrt, hll] at this
    exact this
   rw [hpk]
   generalize Mk.root (Sg.lvs seed (2 ^ m)) = R at kR hrl ⊢
   generalize Sg.lvs seed (2 ^ m) = L at kL kR
   generalize 2 ^ m = P at kL kR hP6
   have hba := bytes_append R [UInt8.ofNat m]
   obtain ⟨f1, f2⟩ := sg_cat R [UInt8.ofNat m] (by simp; omega)
   have hu : ((m : Int)) = ((UInt8.ofNat m).toNat : Int) := by rw [UInt8.toNat_ofNat']; omega
   have hw8 : IntKind.u8.wrap (m : Int) = (m : Int) := by rw [IntKind.wrap_u8]; omega
   generalize R ++ [UInt8.ofNat m] = Z at hba ⊢
   have hone : ([UInt8.ofNat m] : List UInt8).length = 1 := rfl
   obtain ⟨O, hO⟩ : ∃ O : List UInt8, [UInt8.ofNat m] = O := ⟨_, rfl⟩
   rw [hO] at hba f1 f2
   have kc : ∀ (W' : World) g, W'.cell? ⟨g, 0, none⟩ = some (.int .u8 (m : Int)) → (convert 76 9 (.slice (some ⟨g, 0, none⟩) 1 1)).run Tryz.prog W' = .ok (.string ⟨O.toArray⟩) W' := fun W' g hc => by
    rw [← hO]
    exact conv1 W' g (UInt8.ofNat m) _ hu hc
   have HU := Lib.hid (And.intro hu kc)
   clear ht hll hrt hpk hO hone hu kc hsl hrl
   go_enter Tryz.func44, Tryz.ntmps44
   go_wp2_with fail
   refine kt.mono ?_
   rintro e w1 ⟨rfl, b1⟩
   have y0 := b1.drew
   have y9 := (b1.alloc b1.size (.cells #[.int .u8 (m : Int)] 5)).drew
   have x9 : (w1.alloc (.cells #[.int .u8 (m : Int)] 5)).drew.cell? ⟨w1.heap.size, 0, none⟩ = some (.int .u8 (m : Int)) := (Blk.new w1 5 #[.int .u8 (m : Int)]).cell 0
   have X9 := Lib.hid x9
   clear x9 c0 c1 c2 kt
   go_wp2_with fail
   refine wp_region_noPanic ?_
   refine wp_region_held_drew (S := (fun w' => w'.cell? ⟨w.heap.size, 0, none⟩ = some (.string ⟨seed.toArray⟩) ∧ w'.cell? ⟨w.heap.size, 1, none⟩ = some (.int .i64 (m : Int)) ∧ w'.cell? ⟨w.heap.size, 2, none⟩ = some (.int .i64 n))) (by kernel_rfl) ?_ (fun hH0 => ?_)
   ·exact HB.out.1 _ y0
   refine tk 0 11 hH0 ?_
   refine tk 3 14 hH0 ?_
   refine tk 4 15 hH0 ?_
   refine tk 5 16 hH0 ?_
   refine rdy [1, 6] ?_
   refine ad 12 (fun K hK => ?_) ?_
   go_simp; (
    with_reducible refine (kL w1.drew).mono ?_
    rintro e v1 ⟨A1, c1, rfl, hc1, hm1, t1⟩
    have yL := y0.trans (t1.below.mono y0.size)
    have rL := Rd.of_own t1.own); go_wp2_with fail
   refine hK.out _ _ ?_ (fun hH1 => ?_)
   ·exact HB.out.1 _ yL
   clear hK K hH0
   try simp only [pu]
   refine rdy [2, 6] ?_
   refine ad 13 (fun K hK => ?_) ?_
   go_simp; (
    with_reducible refine (kR v1 A1 c1 rL hc1 hm1).mono ?_
    rintro e v2 ⟨rfl, b2⟩
    have yR := yL.trans (b2.mono yL.size)); go_wp2_with fail
   refine hK.out _ _ ?_ (fun hH2 => ?_)
   ·exact HB.out.1 _ yR
   clear hK K hH1
   try simp only [pu]
   refine rdy [6] ?_
   refine an 17 fun K hK => ?_
   go_simp
   refine hK.out _ _ ?_ (fun hH3 => ?_)
   ·exact HB.out.1 _ (yR.alloc yR.size _)
   clear hK K hH2
   try simp only [pu]
   refine rdy [7] ?_
   refine an 18 fun K hK => ?_
   (refine stepV 76 9 _ (by rfl) (by rfl) (by rfl) (HU.out.2 _ _ ((Blk.new v2 5 #[.int .u8 (m : Int)]).cell 0)) ?_)
   refine hK.out _ _ ?_ (fun hH4 => ?_)
   ·exact HB.out.1 _ (yR.alloc yR.size _)
   clear hK K hH3
   try simp only [pu]
   refine tk 8 19 hH4 ?_
   refine tk 9 2 hH4 ?_
   refine tk 10 3 hH4 ?_
   refine dn ?_ _
   rotate_left 1
   refine an 17 fun K hK => ?_
   go_simp
   refine hK.out _ _ ?_ (fun hH5 => ?_)
   ·exact HB.out.1 _ (yL.alloc yL.size _)
   clear hK K hH1
   try simp only [pu]
   refine rdy [2, 7] ?_
   refine ad 13 (fun K hK => ?_) ?_
   go_simp; (
    with_reducible refine (kR (v1.alloc (.cells #[.int .u8 (m : Int)] 5)) A1 c1 (rL.alloc _) hc1 hm1).mono ?_
    rintro e v2 ⟨rfl, b2⟩
    have xR := Lib.hid (below_cell b2 ((Blk.new v1 5 #[.int .u8 (m : Int)]).cell 0))
    have yR := (yL.alloc yL.size (.cells #[.int .u8 (m : Int)] 5)).trans (b2.mono (yL.alloc yL.size (.cells #[.int .u8 (m : Int)] 5)).size)); go_wp2_with fail
   refine hK.out _ _ ?_ (fun hH6 => ?_)
   ·exact HB.out.1 _ yR
   clear hK K hH5
   try simp only [pu]
   refine rdy [7] ?_
   refine an 18 fun K hK => ?_
   (refine stepV 76 9 _ (by rfl) (by rfl) (by rfl) (HU.out.2 _ _ xR.out) ?_)
   refine hK.out _ _ ?_ (fun hH7 => ?_)
   ·exact HB.out.1 _ yR
   clear hK K hH6
   try simp only [pu]
   refine tk 8 19 hH7 ?_
   refine tk 9 2 hH7 ?_
   refine tk 10 3 hH7 ?_
   refine dn ?_ _
   rotate_left 1
   refine an 18 fun K hK => ?_
   (refine stepV 76 9 _ (by rfl) (by rfl) (by rfl) (HU.out.2 _ _ ((Blk.new v1 5 #[.int .u8 (m : Int)]).cell 0)) ?_)
   refine hK.out _ _ ?_ (fun hH8 => ?_)
   ·exact HB.out.1 _ (yL.alloc yL.size _)
   clear hK K hH5
   try simp only [pu]
   refine rdy [2] ?_
   refine an 13 fun K hK => ?_
   go_simp; (
    with_reducible refine (kR (v1.alloc (.cells #[.int .u8 (m : Int)] 5)) A1 c1 (rL.alloc _) hc1 hm1).mono ?_
    rintro e v2 ⟨rfl, b2⟩
    have xR := Lib.hid (below_cell b2 ((Blk.new v1 5 #[.int .u8 (m : Int)]).cell 0))
    have yR := (yL.alloc yL.size (.cells #[.int .u8 (m : Int)] 5)).trans (b2.mono (yL.alloc yL.size (.cells #[.int .u8 (m : Int)] 5)).size)); go_wp2_with fail
   refine hK.out _ _ ?_ (fun hH9 => ?_)
   ·exact HB.out.1 _ yR
   clear hK K hH8
   try simp only [pu]
   refine tk 8 19 hH9 ?_
   refine tk 9 2 hH9 ?_
   refine tk 10 3 hH9 ?_
   refine dn ?_ _
   rotate_left 1
   refine an 17 fun K hK => ?_
   go_simp
   refine hK.out _ _ ?_ (fun hH10 => ?_)
   ·exact HB.out.1 _ y9
   clear hK K hH0
   try simp only [pu]
   refine rdy [1, 7] ?_
   refine ad 12 (fun K hK => ?_) ?_
   go_simp; (
    with_reducible refine (kL (w1.alloc (.cells #[.int .u8 (m : Int)] 5)).drew).mono ?_
    rintro e v1 ⟨A1, c1, rfl, hc1, hm1, t1⟩
    have yL := y9.trans (t1.below.mono y9.size)
    have rL := Rd.of_own t1.own
    have xL := Lib.hid (below_cell t1.below X9.out)); go_wp2_with fail
   refine hK.out _ _ ?_ (fun hH11 => ?_)
   ·exact HB.out.1 _ yL
   clear hK K hH10
   try simp only [pu]
   refine rdy [2, 7] ?_
   refine ad 13 (fun K hK => ?_) ?_
   go_simp; (
    with_reducible refine (kR v1 A1 c1 rL hc1 hm1).mono ?_
    rintro e v2 ⟨rfl, b2⟩
    have xR := Lib.hid (below_cell b2 xL.out)
    have yR := yL.trans (b2.mono yL.size)); go_wp2_with fail
   refine hK.out _ _ ?_ (fun hH12 => ?_)
   ·exact HB.out.1 _ yR
   clear hK K hH11
   try simp only [pu]
   refine rdy [7] ?_
   refine an 18 fun K hK => ?_
   (refine stepV 76 9 _ (by rfl) (by rfl) (by rfl) (HU.out.2 _ _ xR.out) ?_)
   refine hK.out _ _ ?_ (fun hH13 => ?_)
   ·exact HB.out.1 _ yR
   clear hK K hH12
   try simp only [pu]
   refine tk 8 19 hH13 ?_
   refine tk 9 2 hH13 ?_
   refine tk 10 3 hH13 ?_
   refine dn ?_ _
   rotate_left 1
   refine an 18 fun K hK => ?_
   (refine stepV 76 9 _ (by rfl) (by rfl) (by rfl) (HU.out.2 _ _ xL.out) ?_)
   refine hK.out _ _ ?_ (fun hH14 => ?_)
   ·exact HB.out.1 _ yL
   clear hK K hH11
   try simp only [pu]
   refine rdy [2] ?_
   refine an 13 fun K hK => ?_
   go_simp; (
    with_reducible refine (kR v1 A1 c1 rL hc1 hm1).mono ?_
    rintro e v2 ⟨rfl, b2⟩
    have xR := Lib.hid (below_cell b2 xL.out)
    have yR := yL.trans (b2.mono yL.size)); go_wp2_with fail
   refine hK.out _ _ ?_ (fun hH15 => ?_)
   ·exact HB.out.1 _ yR
   clear hK K hH14
   try simp only [pu]
   refine tk 8 19 hH15 ?_
   refine tk 9 2 hH15 ?_
   refine tk 10 3 hH15 ?_
   refine dn ?_ _
   rotate_left 1
   refine an 18 fun K hK => ?_
   (refine stepV 76 9 _ (by rfl) (by rfl) (by rfl) (HU.out.2 _ _ X9.out) ?_)
   refine hK.out _ _ ?_ (fun hH16 => ?_)
   ·exact HB.out.1 _ y9
   clear hK K hH10
   try simp only [pu]
   refine rdy [1] ?_
   refine an 12 fun K hK => ?_
   go_simp; (
    with_reducible refine (kL (w1.alloc (.cells #[.int .u8 (m : Int)] 5)).drew).mono ?_
    rintro e v1 ⟨A1, c1, rfl, hc1, hm1, t1⟩
    have yL := y9.trans (t1.below.mono y9.size)
    have rL := Rd.of_own t1.own
    have xL := Lib.hid (below_cell t1.below X9.out)); go_wp2_with fail
   refine hK.out _ _ ?_ (fun hH17 => ?_)
   ·exact HB.out.1 _ yL
   clear hK K hH16
   try simp only [pu]
   refine rdy [2] ?_
   refine an 13 fun K hK => ?_
   go_simp; (
    with_reducible refine (kR v1 A1 c1 rL hc1 hm1).mono ?_
    rintro e v2 ⟨rfl, b2⟩
    have xR := Lib.hid (below_cell b2 xL.out)
    have yR := yL.trans (b2.mono yL.size)); go_wp2_with fail
   refine hK.out _ _ ?_ (fun hH18 => ?_)
   ·exact HB.out.1 _ yR
   clear hK K hH17
   try simp only [pu]
   refine tk 8 19 hH18 ?_
   refine tk 9 2 hH18 ?_
   refine tk 10 3 hH18 ?_
   refine dn ?_ _
   all_goals (refine NoPanic.normal ?_)
   all_goals
    go_wp2
    go_ret2
    first
     | exact ⟨rfl, b0.trans (yR.mono b0.size)⟩
     | exact ⟨rfl, b0.trans ((yR.alloc yR.size _).mono b0.size)⟩
end Go.Proofs.YtjjpdnpbhdcpbaaGreat
namespace Go.Proofs.YtjjpdnpbhdcpbaaGreat
set_option linter.unusedVariables false
open Go.RowKit
attribute [local go_sem] Oper.semAt_some
def headB (o : Sg.Str) (n : Int) (r : Sg.Str) : Bool := decide (1 ≤ o.length) && (decide (o.length ≤ 64) && (decide (0 ≤ n) && (decide (n ≤ 4096) && decide (r.length = 32))))
def headS (o : Sg.Str) (n : Int) (r : Sg.Str) : Sg.Str := Cd.text o ++ Cd.uns n.toNat ++ Cd.text r
theorem headB_parts {o : Sg.Str} {n : Int} {r : Sg.Str} (h : headB o n r = true) : 1 ≤ o.length ∧ o.length ≤ 64 ∧ 0 ≤ n ∧ n ≤ 4096 ∧ r.length = 32 := by
 unfold headB at h
 simp only [Bool.and_eq_true, decide_eq_true_eq] at h
 exact h
theorem headS_len {o : Sg.Str} {n : Int} {r : Sg.Str} (h : headB o n r = true) : (headS o n r).length ≤ 200 := by
 obtain ⟨_, h2, _, _, h5⟩ := headB_parts h
 have k1 := Cd.uns_len o.length
 have k2 := Cd.uns_len n.toNat
 have k3 := Cd.uns_len r.length
 unfold headS Cd.text
 simp only [List.length_append]
 omega
set_option maxRecDepth 20000 in
set_option maxHeartbeats 2000000 in
theorem headed_spec (o : Sg.Str) (n : Int) (r : Sg.Str) (w : World) :
 Calls Tryz.prog 51 #[.agg #[.string ⟨o.toArray⟩, .int .i64 n, .string ⟨r.toArray⟩]] w fun e w' => e = .returned (.bool (headB o n r)) ∧ Below w.heap.size w w' := by
 have z1 := bytes_size o
 have z2 := bytes_size r
 have b0 := (Below.refl _ w).alloc (Nat.le_refl _) (.cells #[.string ⟨o.toArray⟩, .int .i64 n, .string ⟨r.toArray⟩] 25)
 have HB := Lib.hid b0
 clear b0
 unfold headB
 by_cases c0 : 1 ≤ o.length
 ·rw [decide_eq_true c0]
  have d00 : decide ((o.length : Int) ≥ 1) = true := decide_eq_true (by omega)
  have d01 : decide (1 ≤ (o.length : Int)) = true := decide_eq_true (by omega)
  have d02 : decide (1 ≤ o.length) = true := decide_eq_true (by omega)
  have d03 : decide (0 < o.length) = true := decide_eq_true (by omega)
  clear c0
  by_cases c1 : o.length ≤ 64
  ·rw [decide_eq_true c1]
   have d10 : decide ((o.length : Int) ≤ 64) = true := decide_eq_true (by omega)
   have d11 : decide (o.length ≤ 64) = true := decide_eq_true (by omega)
   clear c1
   by_cases c2 : 0 ≤ n
   ·rw [decide_eq_true c2]
    have d20 : decide (n ≥ 0) = true := decide_eq_true (by omega)
    have d21 : decide (0 ≤ n) = true := decide_eq_true (by omega)
    clear c2
    by_cases c3 : n ≤ 4096
    ·rw [decide_eq_true c3]
     have d30 : decide (n ≤ 4096) = true := decide_eq_true (by omega)
     clear c3
     by_cases c4 : r.length = 32
     ·rw [decide_eq_true c4]
      have d40 : decide ((r.length : Int) = 32) = true := decide_eq_true (by omega)
      have d41 : decide (r.length = 32) = true := decide_eq_true (by omega)
      have e4 : ((r.length : Int) == 32) = true := by rw [c4]; rfl
      clear c4
      go_enter Tryz.func51, Tryz.ntmps51
      go_wp2
      go_ret
      exact ⟨rfl, HB.out⟩
     ·rw [decide_eq_false c4]
      have d40 : decide ((r.length : Int) = 32) = false := decide_eq_false (by omega)
      have d41 : decide (r.length = 32) = false := decide_eq_false (by omega)
      have e4 : ((r.length : Int) == 32) = false := by rw [beq_eq_false_iff_ne]; omega
      clear c4
      go_enter Tryz.func51, Tryz.ntmps51
      go_wp2
      go_ret
      exact ⟨rfl, HB.out⟩
    ·rw [decide_eq_false c3]
     have d30 : decide (n ≤ 4096) = false := decide_eq_false (by omega)
     clear c3
     go_enter Tryz.func51, Tryz.ntmps51
     go_wp2
     go_ret
     exact ⟨rfl, HB.out⟩
   ·rw [decide_eq_false c2]
    have d20 : decide (n ≥ 0) = false := decide_eq_false (by omega)
    have d21 : decide (0 ≤ n) = false := decide_eq_false (by omega)
    clear c2
    go_enter Tryz.func51, Tryz.ntmps51
    go_wp2
    go_ret
    exact ⟨rfl, HB.out⟩
  ·rw [decide_eq_false c1]
   have d10 : decide ((o.length : Int) ≤ 64) = false := decide_eq_false (by omega)
   have d11 : decide (o.length ≤ 64) = false := decide_eq_false (by omega)
   clear c1
   go_enter Tryz.func51, Tryz.ntmps51
   go_wp2
   go_ret
   exact ⟨rfl, HB.out⟩
 ·rw [decide_eq_false c0]
  have d00 : decide ((o.length : Int) ≥ 1) = false := decide_eq_false (by omega)
  have d01 : decide (1 ≤ (o.length : Int)) = false := decide_eq_false (by omega)
  have d02 : decide (1 ≤ o.length) = false := decide_eq_false (by omega)
  have d03 : decide (0 < o.length) = false := decide_eq_false (by omega)
  clear c0
  go_enter Tryz.func51, Tryz.ntmps51
  go_wp2
  go_ret
  exact ⟨rfl, HB.out⟩
set_option maxRecDepth 20000 in
theorem cknum_spec (n : Nat) (h : n < 9223372036854775808) (w : World) : Calls Tryz.prog 68 #[.int .i64 (n : Int)] w fun e w' => e = .returned (.string ⟨(Cd.uns n).toArray⟩) ∧ Below w.heap.size w w' := by
 have k := uint_pos n h w
 clear h
 go_enter Tryz.func68, Tryz.ntmps68
 go_wp2_with fail
 refine k.mono ?_
 rintro e w1 ⟨rfl, b1⟩
 go_wp2
 go_ret
 exact ⟨rfl, b1⟩
set_option maxRecDepth 20000 in
set_option maxHeartbeats 2000000 in
theorem ckbytes_spec (o : Sg.Str) (n : Int) (r : Sg.Str) (w : World) (h : headB o n r = true) :
 Calls Tryz.prog 53 #[.agg #[.string ⟨o.toArray⟩, .int .i64 n, .string ⟨r.toArray⟩]] w fun e w' => e = .returned (.string ⟨(headS o n r).toArray⟩) ∧ Below w.heap.size w w' := by
 obtain ⟨_, h2, h3, h4, h5⟩ := headB_parts h
 obtain ⟨q, rfl⟩ : ∃ q : Nat, n = q := ⟨n.toNat, by omega⟩
 have kO := fun W => text_spec o (Nat.le_trans h2 (by decide)) W
 have kR := fun W => text_spec r (by rw [h5]; decide) W
 have kN := fun W => cknum_spec q (by omega) W
 have l1 : (Cd.text o).length ≤ 80 := by have := Cd.uns_len o.length; unfold Cd.text; rw [List.length_append]; omega
 have l2 := Cd.uns_len q
 have l3 : (Cd.text r).length ≤ 50 := by have := Cd.uns_len r.length; unfold Cd.text; rw [List.length_append]; omega
 have hs : headS o (q : Int) r = Cd.text o ++ Cd.uns q ++ Cd.text r := by unfold headS; rw [Int.toNat_natCast]
 rw [hs]
 generalize Cd.text o = O at kO l1
 generalize Cd.text r = R at kR l3
 generalize Cd.uns q = U at kN l2
 have g1 := bytes_append O U
 have g2 := bytes_append (O ++ U) R
 obtain ⟨f1, f2⟩ := sg_cat O U (by omega)
 obtain ⟨f3, f4⟩ := sg_cat (O ++ U) R (by rw [List.length_append]; omega)
 simp only [List.length_append] at f3 f4
 have bk := Blk.new w 25 #[.string ⟨o.toArray⟩, .int .i64 (q : Int), .string ⟨r.toArray⟩]
 have b0 := (Below.refl _ w).alloc (Nat.le_refl _) (.cells #[.string ⟨o.toArray⟩, .int .i64 (q : Int), .string ⟨r.toArray⟩] 25)
 obtain ⟨W0, hW0⟩ : ∃ W0, w.alloc (.cells #[.string ⟨o.toArray⟩, .int .i64 (q : Int), .string ⟨r.toArray⟩] 25) = W0 := ⟨_, rfl⟩
 rw [hW0] at bk b0
 have HB := Lib.hid b0
 have HS := Lib.hid (show ∀ W, Below W0.heap.size W0 W → (W.cell? ⟨w.heap.size, 0, none⟩ = some (.string ⟨o.toArray⟩) ∧ W.cell? ⟨w.heap.size, 1, none⟩ = some (.int .i64 (q : Int)) ∧ W.cell? ⟨w.heap.size, 2, none⟩ = some (.string ⟨r.toArray⟩)) from fun W hb => ⟨(bk.below hb).cell 0, (bk.below hb).cell 1, (bk.below hb).cell 2⟩)
 have y0 := (Below.refl W0.heap.size W0).drew
 clear h h2 h3 h4 h5 bk b0 hs l1 l2 l3
 go_enter Tryz.func53, Tryz.ntmps53
 go_wp2_with fail
 clear hW0
 refine wp_region_noPanic ?_
 refine wp_region_held_drew (S := (fun w' => w'.cell? ⟨w.heap.size, 0, none⟩ = some (.string ⟨o.toArray⟩) ∧ w'.cell? ⟨w.heap.size, 1, none⟩ = some (.int .i64 (q : Int)) ∧ w'.cell? ⟨w.heap.size, 2, none⟩ = some (.string ⟨r.toArray⟩))) (by kernel_rfl) ?_ (fun hH0 => ?_)
 ·exact HS.out _ y0
 refine tk 0 3 hH0 ?_
 refine tk 1 4 hH0 ?_
 refine tk 3 6 hH0 ?_
 refine tk 4 7 hH0 ?_
 refine tk 7 10 hH0 ?_
 refine tk 8 11 hH0 ?_
 refine rdy [2] ?_
 refine an 5 fun K hK => ?_
 go_simp; (
  with_reducible refine (kO _).mono ?_
  rintro e w1 ⟨rfl, b1⟩
  have y1 := y0.trans (b1.mono y0.size)); go_wp2_with fail
 refine hK.out _ _ ?_ (fun hH1 => ?_)
 ·exact HS.out _ y1
 clear hK K hH0
 try simp only [pu]
 refine rdy [5] ?_
 refine an 8 fun K hK => ?_
 go_simp; (
  with_reducible refine (kN _).mono ?_
  rintro e w2 ⟨rfl, b2⟩
  have y2 := y1.trans (b2.mono y1.size)); go_wp2_with fail
 refine hK.out _ _ ?_ (fun hH2 => ?_)
 ·exact HS.out _ y2
 clear hK K hH1
 try simp only [pu]
 refine tk 6 9 hH2 ?_
 refine rdy [9] ?_
 refine an 12 fun K hK => ?_
 go_simp; (
  with_reducible refine (kR _).mono ?_
  rintro e w3 ⟨rfl, b3⟩
  have y3 := y2.trans (b3.mono y2.size)); go_wp2_with fail
 refine hK.out _ _ ?_ (fun hH3 => ?_)
 ·exact HS.out _ y3
 clear hK K hH2
 try simp only [pu]
 refine tk 10 13 hH3 ?_
 refine tk 11 2 hH3 ?_
 refine dn ?_ _
 all_goals (refine NoPanic.normal ?_)
 go_wp2
 go_ret
 refine ⟨?_, HB.out.trans (y3.mono HB.out.size)⟩
 first
  | rfl
  | (rw [List.append_assoc]; rfl)
end Go.Proofs.YtjjpdnpbhdcpbaaGreat
namespace Go.Proofs.YtjjpdnpbhdcpbaaGreat
set_option linter.unusedVariables false
open Go.RowKit Go.Shelf
attribute [local go_sem] Oper.semAt_some
def vpB (pub : Sg.Str) : Bool := if pub.length = 33 then decide ((pub.getD 32 0).toNat ≤ 6) else false
theorem cons_bytes (x : UInt8) (s : Sg.Str) : (⟨#[x]⟩ : ByteArray) ++ ⟨s.toArray⟩ = ⟨(x :: s).toArray⟩ := bytes_append [x] s
def ckB (p : UInt8) (pub o : Sg.Str) (n : Int) (r : Sg.Str) (i : Int) (C T : List Sg.Str) : Bool := if headB o n r = true then verB pub (Sg.dgs (p :: headS o n r)) i C T else false
theorem ckpub_spec (pub : Sg.Str) (w : World) : Calls Tryz.prog 58 #[.string ⟨pub.toArray⟩] w fun e w' => e = .returned (.bool (vpB pub)) ∧ w = w' := by
 have hp := bytes_size pub
 unfold vpB
 by_cases c1 : pub.length = 33
 ·rw [if_pos c1]
  rw [c1] at hp
  have hx : ∀ hh, ((⟨pub.toArray⟩ : ByteArray)[32]'hh).toNat = (pub.getD 32 0).toNat := fun hh => by
   have h0 : 32 < pub.length := by omega
   rw [at_byte pub 32 h0 hh, List.getD_eq_getElem?_getD, List.getElem?_eq_getElem h0]
   rfl
  have hlt := (pub.getD 32 0).toNat_lt
  obtain ⟨x, hxx⟩ : ∃ x, (pub.getD 32 0).toNat = x := ⟨_, rfl⟩
  rw [hxx] at hx hlt ⊢
  have e8 : wrap64 (x : Int) = (x : Int) := IntWalk.wrap64_in _ (by omega)
  have e9 : IntKind.i64.wrap (x : Int) = (x : Int) := by rw [IntKind.wrap_i64]; omega
  have hi : decide ((x : Int) ≤ 6) = decide (x ≤ 6) := by by_cases h : x ≤ 6 <;> simp [h] <;> omega
  clear hxx
  go_enter Tryz.func58, Tryz.ntmps58
  go_wp2
  go_ret
  refine ⟨ret_eq ?_, rfl⟩
  rw [← hi]
  simp
 ·rw [if_neg c1]
  have g1 : ((pub.length : Int) == 33) = false := by rw [beq_eq_false_iff_ne]; omega
  have g2 : ¬ ((pub.length : Int) = 33) := by omega
  go_enter Tryz.func58, Tryz.ntmps58
  go_wp2
  go_ret
  exact ⟨rfl, rfl⟩
set_option maxRecDepth 20000 in
set_option maxHeartbeats 4000000 in
theorem ckverify_spec (pub o : Sg.Str) (n : Int) (r : Sg.Str) (i : Int) (C T : List Sg.Str) (A B X : Option Addr) (a b l c : Nat) (w : World) (hC : Rd w A (strs C)) (hT : Rd w B (strs T)) (h1 : C.length ≤ a) (h2 : a ≤ maxLen) (h3 : T.length ≤ b) (h4 : b ≤ maxLen) :
 Calls Tryz.prog 26 #[.string ⟨pub.toArray⟩, .agg #[.string ⟨o.toArray⟩, .int .i64 n, .string ⟨r.toArray⟩, .int .i64 i, .slice A C.length a, .slice B T.length b, .slice X l c]] w fun e w' => e = .returned (.bool (ckB 4 pub o n r i C T)) ∧ Below w.heap.size w w' := by
 have kh := fun W => headed_spec o n r W
 have b0 := (Below.refl _ w).alloc (Nat.le_refl _) (.cells #[.string ⟨o.toArray⟩, .int .i64 n, .string ⟨r.toArray⟩, .int .i64 i, .slice A C.length a, .slice B T.length b, .slice X l c] 32)
 have bk := Blk.new w 32 #[.string ⟨o.toArray⟩, .int .i64 n, .string ⟨r.toArray⟩, .int .i64 i, .slice A C.length a, .slice B T.length b, .slice X l c]
 have hC' := hC.alloc (.cells #[.string ⟨o.toArray⟩, .int .i64 n, .string ⟨r.toArray⟩, .int .i64 i, .slice A C.length a, .slice B T.length b, .slice X l c] 32)
 have hT' := hT.alloc (.cells #[.string ⟨o.toArray⟩, .int .i64 n, .string ⟨r.toArray⟩, .int .i64 i, .slice A C.length a, .slice B T.length b, .slice X l c] 32)
 obtain ⟨W0, hW0⟩ : ∃ W0, w.alloc (.cells #[.string ⟨o.toArray⟩, .int .i64 n, .string ⟨r.toArray⟩, .int .i64 i, .slice A C.length a, .slice B T.length b, .slice X l c] 32) = W0 := ⟨_, rfl⟩
 rw [hW0] at b0 bk hC' hT'
 have HB := Lib.hid b0
 have HS := Lib.hid (show ∀ W, Below W0.heap.size W0 W → (W.cell? ⟨w.heap.size, 0, none⟩ = some (.string ⟨o.toArray⟩) ∧ W.cell? ⟨w.heap.size, 1, none⟩ = some (.int .i64 n) ∧ W.cell? ⟨w.heap.size, 2, none⟩ = some (.string ⟨r.toArray⟩) ∧ W.cell? ⟨w.heap.size, 3, none⟩ = some (.int .i64 i) ∧ W.cell? ⟨w.heap.size, 4, none⟩ = some (.slice A C.length a) ∧ W.cell? ⟨w.heap.size, 5, none⟩ = some (.slice B T.length b)) from fun W hb => ⟨(bk.below hb).cell 0, (bk.below hb).cell 1, (bk.below hb).cell 2, (bk.below hb).cell 3, (bk.below hb).cell 4, (bk.below hb).cell 5⟩)
 have y0 := (Below.refl W0.heap.size W0).drew
 unfold ckB
 cases hh : headB o n r with
 | false =>
   rw [hh] at kh
   rw [if_neg (by decide)]
   clear hh hC hT hC' hT' h1 h2 h3 h4 b0 bk
   go_enter Tryz.func26, Tryz.ntmps26
   go_wp2_with fail
   clear hW0
   refine wp_region_noPanic ?_
   refine wp_region_held_drew (S := (fun W => (W.cell? ⟨w.heap.size, 0, none⟩ = some (.string ⟨o.toArray⟩) ∧ W.cell? ⟨w.heap.size, 1, none⟩ = some (.int .i64 n) ∧ W.cell? ⟨w.heap.size, 2, none⟩ = some (.string ⟨r.toArray⟩) ∧ W.cell? ⟨w.heap.size, 3, none⟩ = some (.int .i64 i) ∧ W.cell? ⟨w.heap.size, 4, none⟩ = some (.slice A C.length a) ∧ W.cell? ⟨w.heap.size, 5, none⟩ = some (.slice B T.length b)))) (by kernel_rfl) ?_ (fun hH0 => ?_)
   ·exact HS.out _ y0
   refine tk 0 5 hH0 ?_
   refine tk 1 6 hH0 ?_
   refine rdy [2] ?_
   refine an 7 fun K hK => ?_
   go_simp; (
    with_reducible refine (kh _).mono ?_
    rintro e w1 ⟨rfl, b1⟩
    have y1 := y0.trans (b1.mono y0.size)); go_wp2_with fail
   refine hK.out _ _ ?_ (fun hH1 => ?_)
   ·exact HS.out _ y1
   clear hK K hH0
   try simp only [pu]
   refine tk 3 8 hH1 ?_
   refine tu 4 9 hH1 ?_
   refine tu 5 10 hH1 ?_
   refine tu 6 11 hH1 ?_
   refine tu 7 12 hH1 ?_
   refine tu 8 13 hH1 ?_
   refine tu 9 14 hH1 ?_
   refine tu 10 15 hH1 ?_
   refine tu 11 16 hH1 ?_
   refine tk 12 17 hH1 ?_
   refine tk 13 4 hH1 ?_
   refine dn ?_ _
   all_goals (refine NoPanic.normal ?_)
   go_wp2
   go_ret
   exact ⟨rfl, HB.out.trans (y1.mono HB.out.size)⟩
 | true =>
   rw [hh] at kh
   rw [if_pos rfl]
   have kb := fun W => ckbytes_spec o n r W hh
   have hl := headS_len hh
   have kv : ∀ W, Below W0.heap.size W0 W → Calls Tryz.prog 64 #[.string ⟨pub.toArray⟩, .string ⟨((4 : UInt8) :: headS o n r).toArray⟩, .agg #[.int .i64 i, .slice A C.length a, .slice B T.length b]] W fun e w' => e = .returned (.bool (verB pub (Sg.dgs (4 :: headS o n r)) i C T)) ∧ Below W.heap.size W w' := fun W hb =>
    verify_spec pub (4 :: headS o n r) i C T A B a b W (by rw [List.length_cons]; omega) (hC'.below hb) (hT'.below hb) h1 h2 h3 h4
   have g1 := cons_bytes 4 (headS o n r)
   obtain ⟨f1, f2⟩ := sg_cat [4] (headS o n r) (by rw [List.length_singleton]; omega)
   rw [List.length_singleton] at f1 f2
   generalize verB pub (Sg.dgs (4 :: headS o n r)) i C T = res at kv ⊢
   clear hh hC hT hC' hT' h1 h2 h3 h4 b0 bk
   go_enter Tryz.func26, Tryz.ntmps26
   go_wp2_with fail
   clear hW0
   refine wp_region_noPanic ?_
   refine wp_region_held_drew (S := (fun W => (W.cell? ⟨w.heap.size, 0, none⟩ = some (.string ⟨o.toArray⟩) ∧ W.cell? ⟨w.heap.size, 1, none⟩ = some (.int .i64 n) ∧ W.cell? ⟨w.heap.size, 2, none⟩ = some (.string ⟨r.toArray⟩) ∧ W.cell? ⟨w.heap.size, 3, none⟩ = some (.int .i64 i) ∧ W.cell? ⟨w.heap.size, 4, none⟩ = some (.slice A C.length a) ∧ W.cell? ⟨w.heap.size, 5, none⟩ = some (.slice B T.length b)))) (by kernel_rfl) ?_ (fun hH0 => ?_)
   ·exact HS.out _ y0
   refine tk 0 5 hH0 ?_
   refine tk 1 6 hH0 ?_
   refine rdy [2] ?_
   refine an 7 fun K hK => ?_
   go_simp; (
    with_reducible refine (kh _).mono ?_
    rintro e w1 ⟨rfl, b1⟩
    have y1 := y0.trans (b1.mono y0.size)); go_wp2_with fail
   refine hK.out _ _ ?_ (fun hH1 => ?_)
   ·exact HS.out _ y1
   clear hK K hH0
   try simp only [pu]
   refine tk 3 8 hH1 ?_
   refine tk 4 9 hH1 ?_
   refine tk 5 10 hH1 ?_
   refine tk 6 11 hH1 ?_
   refine tk 9 14 hH1 ?_
   refine tk 10 15 hH1 ?_
   refine rdy [7] ?_
   refine an 12 fun K hK => ?_
   go_simp; (
    with_reducible refine (kb _).mono ?_
    rintro e w2 ⟨rfl, b2⟩
    have y2 := y1.trans (b2.mono y1.size)); go_wp2_with fail
   refine hK.out _ _ ?_ (fun hH2 => ?_)
   ·exact HS.out _ y2
   clear hK K hH1
   try simp only [pu]
   refine tk 8 13 hH2 ?_
   refine rdy [11] ?_
   refine an 16 fun K hK => ?_
   go_simp; (
    with_reducible refine (kv _ y2).mono ?_
    rintro e w3 ⟨rfl, b3⟩
    have y3 := y2.trans (b3.mono y2.size)); go_wp2_with fail
   refine hK.out _ _ ?_ (fun hH3 => ?_)
   ·exact HS.out _ y3
   clear hK K hH2
   try simp only [pu]
   refine tk 12 17 hH3 ?_
   refine tk 13 4 hH3 ?_
   refine dn ?_ _
   all_goals (refine NoPanic.normal ?_)
   go_wp2
   go_ret
   exact ⟨rfl, HB.out.trans (y3.mono HB.out.size)⟩
def samB (i : Int) (C T : List Sg.Str) (j : Int) (D U : List Sg.Str) : Bool := if i = j then (if C = D then decide (T = U) else false) else false
set_option maxRecDepth 20000 in
set_option maxHeartbeats 4000000 in
theorem rsame_spec (i : Int) (C T : List Sg.Str) (A B : Option Addr) (cC cT : Nat) (j : Int) (D U : List Sg.Str) (A' B' : Option Addr) (cD cU : Nat) (w : World) (hC : Rd w A (strs C)) (hT : Rd w B (strs T)) (hD : Rd w A' (strs D)) (hU : Rd w B' (strs U)) (h1 : C.length ≤ maxLen) (h2 : T.length ≤ maxLen) (h3 : D.length ≤ maxLen) (h4 : U.length ≤ maxLen) :
 Calls Tryz.prog 19 #[.agg #[.int .i64 i, .slice A C.length cC, .slice B T.length cT], .agg #[.int .i64 j, .slice A' D.length cD, .slice B' U.length cU]] w fun e w' => e = .returned (.bool (samB i C T j D U)) ∧ Below w.heap.size w w' := by
 obtain ⟨W0, hW0⟩ : ∃ W0, w.alloc (.cells #[.int .i64 i, .slice A C.length cC, .slice B T.length cT] 29) = W0 := ⟨_, rfl⟩
 have hs0 : W0.heap.size = w.heap.size + 1 := by rw [← hW0]; simp
 obtain ⟨W, hW⟩ : ∃ W, W0.alloc (.cells #[.int .i64 j, .slice A' D.length cD, .slice B' U.length cU] 29) = W := ⟨_, rfl⟩
 have b0 : Below w.heap.size w W := by rw [← hW, ← hW0]; exact ((Below.refl _ w).alloc (Nat.le_refl _) _).alloc (by simp) _
 have bk : Blk W w.heap.size 29 #[.int .i64 i, .slice A C.length cC, .slice B T.length cT] := by rw [← hW, ← hW0]; exact (Blk.new w _ _).alloc _
 have br : Blk W (w.heap.size + 1) 29 #[.int .i64 j, .slice A' D.length cD, .slice B' U.length cU] := by rw [← hW, ← hs0]; exact Blk.new W0 _ _
 have hm : maxLen ≤ 9223372036854775807 := by decide
 have kc := samestr_spec A A' C D cC cD W (hC.below b0) (hD.below b0) (Nat.le_trans h1 hm) (Nat.le_trans h3 hm)
 have kt := fun n => samestr_spec B B' T U cT cU (W.drewN n) ((hT.below b0).below (belowN (Below.refl _ _) n)) ((hU.below b0).below (belowN (Below.refl _ _) n)) (Nat.le_trans h2 hm) (Nat.le_trans h4 hm)
 have c0 := bk.cell 0
 have c1 := bk.cell 1
 have c2 := bk.cell 2
 have d0 := br.cell 0
 have d1 := br.cell 1
 have d2 := br.cell 2
 have hcn : ∀ n, (W.drewN n).cell? ⟨w.heap.size, 2, none⟩ = some (.slice B T.length cT) ∧ (W.drewN n).cell? ⟨w.heap.size + 1, 2, none⟩ = some (.slice B' U.length cU) := fun n => ⟨c2, d2⟩
 have HB := Lib.hid (And.intro b0 hcn)
 clear b0 bk br hC hT hD hU hcn h1 h2 h3 h4
 unfold samB
 by_cases e1 : i = j
 ·subst e1
  rw [if_pos rfl]
  by_cases e2 : C = D
  ·rw [if_pos e2]
   have e2' : decide (C = D) = true := decide_eq_true e2
   rw [e2'] at kc
   generalize decide (T = U) = q at kt ⊢
   clear e2 e2'
   go_enter Tryz.func19, Tryz.ntmps19
   go_wp2_with fail
   refine kc.mono ?_
   rintro e w1 ⟨rfl, n, rfl⟩
   obtain ⟨x1, x2⟩ := HB.out.2 n
   clear kc c0 c1 c2 d0 d1 d2
   go_wp2_with fail
   refine (kt n).mono ?_
   rintro e w2 ⟨rfl, m, rfl⟩
   go_wp2
   go_ret
   exact ⟨rfl, belowN HB.out.1 _⟩
  ·rw [if_neg e2]
   have e2' : decide (C = D) = false := decide_eq_false e2
   rw [e2'] at kc
   clear e2 e2' kt
   go_enter Tryz.func19, Tryz.ntmps19
   go_wp2_with fail
   refine kc.mono ?_
   rintro e w1 ⟨rfl, n, rfl⟩
   go_wp2
   go_ret
   exact ⟨rfl, belowN HB.out.1 n⟩
 ·rw [if_neg e1]
  have e1' : (i == j) = false := by rw [beq_eq_false_iff_ne]; exact e1
  clear kc kt
  go_enter Tryz.func19, Tryz.ntmps19
  go_wp2
  go_ret
  exact ⟨rfl, HB.out.1⟩
end Go.Proofs.YtjjpdnpbhdcpbaaGreat
