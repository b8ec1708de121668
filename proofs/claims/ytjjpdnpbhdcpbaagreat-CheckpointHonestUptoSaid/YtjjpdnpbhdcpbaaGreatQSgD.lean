/-
  The public key of a key tree, in the program. Conditions: seeds of at most 2^30 bytes.
-/
import Derived.Test.YtjjpdnpbhdcpbaaGreatQPa
namespace Go.Proofs.YtjjpdnpbhdcpbaaGreat
set_option linter.unusedVariables false
open Go.RowKit
theorem stepV {P : Program} {w : World} {ops : Array Oper} {o : Oper} {a : Act} {K : Act → World → Prop} {Q : Exit → Act → World → Prop} {E : Prop} (src dst : TypeId) (x : Operand) (ho : o.op = .convert src dst x) (hgd : o.guard = none) {v u : Value} (hx : a.eval x = v)
 (hr : (convert src dst v).run P w = .ok u w) (hk : K (a.put o.dst u) w) : if Region.wanted o (yielded ops a.tmps) = true then Oper.wp P o a w K Q else E := by
 rw [if_pos (by unfold Region.wanted; rw [hgd])]
 unfold Oper.wp execOp
 simp only [ho, Sem.run_bind, Sem.run_pure, hx, hr, Result.andThen_ok]
 exact hk
theorem conv1 (W : World) (g : Nat) (x : UInt8) (n : Int) (hn : n = (x.toNat : Int)) (hc : W.cell? ⟨g, 0, none⟩ = some (.int .u8 n)) : (convert 76 9 (.slice (some ⟨g, 0, none⟩) 1 1)).run Tryz.prog W = .ok (.string ⟨[x].toArray⟩) W := by
 refine run_convert_bytes_back W 76 9 5 ⟨g, 0, none⟩ 1 [x] Tryz.underlying76 Tryz.underlying5 Tryz.underlying9 fun j hj => ?_
 match j, hj with
 | 0, _ =>
   subst hn
   simpa [Addr.add] using hc
def pubK (seed : Sg.Str) (m : Nat) : Sg.Str := Mk.root (Sg.lvs seed (2 ^ m)) ++ [UInt8.ofNat m]
def pubR (seed : Sg.Str) (h : Int) : Sg.Str × Int := if treeB seed h = true then (pubK seed h.toNat, 0) else ([], 1)
theorem root_lvs (seed : Sg.Str) (m : Nat) (hm : m ≤ 6) : mRoot (Sg.lvs seed (2 ^ m)) = Mk.root (Sg.lvs seed (2 ^ m)) := mRoot_ok (Sg.lvs_dig _ _) (by rw [Sg.lvs_len]; have := pow6 hm; omega)
theorem pubK_len (seed : Sg.Str) (m : Nat) : (pubK seed m).length = 33 := by
 unfold pubK
 rw [List.length_append, Mk.rootD (Sg.lvs_dig _ _)]
 rfl
def KlP (L : List Sg.Str) (P : Nat) (w : World) (e : Ending) (w' : World) : Prop := ∃ A c, e = .returned (.slice A P c) ∧ P ≤ c ∧ c ≤ maxLen ∧ St w.heap.size w w' [ownR 9 1 (.slice A P c) P (strs L)]
set_option maxRecDepth 20000 in
set_option maxHeartbeats 4000000 in
theorem public_spec (seed : Sg.Str) (h n : Int) (w : World) (hs : seed.length ≤ 1073741824) :
 Calls Tryz.prog 85 #[.agg #[.string ⟨seed.toArray⟩, .int .i64 h, .int .i64 n]] w fun e w' => e = .returned (.tuple #[.string ⟨(pubR seed h).1.toArray⟩, .int .i64 (pubR seed h).2]) ∧ Below w.heap.size w w' := by
 obtain ⟨W, hW⟩ : ∃ W, w.alloc (.cells #[.string ⟨seed.toArray⟩, .int .i64 h, .int .i64 n] 23) = W := ⟨_, rfl⟩
 have b0 : Below w.heap.size w W := by rw [← hW]; exact (Below.refl _ w).alloc (Nat.le_refl _) _
 have bl : Blk W w.heap.size 23 #[.string ⟨seed.toArray⟩, .int .i64 h, .int .i64 n] := by rw [← hW]; exact Blk.new w _ _
 have hcell : ∀ W', Below W.heap.size W W' → W'.cell? ⟨w.heap.size, 0, none⟩ = some (.string ⟨seed.toArray⟩) ∧ W'.cell? ⟨w.heap.size, 1, none⟩ = some (.int .i64 h) ∧ W'.cell? ⟨w.heap.size, 2, none⟩ = some (.int .i64 n) := fun W' hb => ⟨below_cell hb (bl.cell 0), below_cell hb (bl.cell 1), below_cell hb (bl.cell 2)⟩
 have kt := tree_spec seed h n W
 obtain ⟨c0, c1, c2⟩ := hcell _ (Below.refl _ _)
 have HB := Lib.hid (And.intro hcell b0)
 clear hcell bl
 unfold pubR
 cases ht : treeB seed h with
 | false =>
   rw [ht] at kt
   rw [if_neg (by simp)]
   clear ht
   go_enter Tryz.func85, Tryz.ntmps85
   go_wp2_with fail
   refine kt.mono ?_
   rintro e w1 ⟨rfl, b1⟩
   go_wp2
   go_ret2
   exact ⟨rfl, b0.trans (b1.mono b0.size)⟩
 | true =>
   rw [ht] at kt
   rw [if_pos rfl]
   obtain ⟨hsl, m, rfl, hm⟩ := treeB_parts ht
   rw [Int.toNat_natCast]
   have hP6 := pow6 hm
   have hll := Sg.lvs_len seed (2 ^ m)
   have hrt := root_lvs seed m hm
   have hpk : pubK seed m = Mk.root (Sg.lvs seed (2 ^ m)) ++ [UInt8.ofNat m] := rfl
   have hrl := Mk.rootD (Sg.lvs_dig seed (2 ^ m))
   have kL : ∀ W', Calls Tryz.prog 100 #[.agg #[.string ⟨seed.toArray⟩, .int .i64 (m : Int), .int .i64 n]] W' (KlP (Sg.lvs seed (2 ^ m)) (2 ^ m) W') := fun W' => by
    have := kleaves_spec seed m n W' hs hm
    unfold SlR at this
    rw [hll] at this
    exact this
   have kR : ∀ W' A c, Rd W' A (strs (Sg.lvs seed (2 ^ m))) → 2 ^ m ≤ c → c ≤ maxLen → Calls Tryz.prog 87 #[.slice A (2 ^ m) c] W' fun e w' => e = .returned (.string ⟨(Mk.root (Sg.lvs seed (2 ^ m))).toArray⟩) ∧ Below W'.heap.size W' w' := fun W' A c h1 h2 h3 => by
    have := root_mk A (Sg.lvs seed (2 ^ m)) c W' h1 (by omega) (by omega) h3
    rw [hrt, hll] at this
    exact this
   rw [hpk]
   generalize Mk.root (Sg.lvs seed (2 ^ m)) = R at kR hrl ⊢
   generalize Sg.lvs seed (2 ^ m) = L at kL kR
   generalize 2 ^ m = P at kL kR hP6
   have hba := bytes_append R [UInt8.ofNat m]
   obtain ⟨f1, f2⟩ := sg_cat R [UInt8.ofNat m] (by simp; omega)
   have hu : ((m : Int)) = ((UInt8.ofNat m).toNat : Int) := by rw [UInt8.toNat_ofNat']; omega
   have hw8 : IntKind.u8.wrap (m : Int) = (m : Int) := by rw [IntKind.wrap_u8]; omega
   generalize R ++ [UInt8.ofNat m] = Z at hba ⊢
   have hone : ([UInt8.ofNat m] : List UInt8).length = 1 := rfl
   obtain ⟨O, hO⟩ : ∃ O : List UInt8, [UInt8.ofNat m] = O := ⟨_, rfl⟩
   rw [hO] at hba f1 f2
   have kc : ∀ (W' : World) g, W'.cell? ⟨g, 0, none⟩ = some (.int .u8 (m : Int)) → (convert 76 9 (.slice (some ⟨g, 0, none⟩) 1 1)).run Tryz.prog W' = .ok (.string ⟨O.toArray⟩) W' := fun W' g hc => by
    rw [← hO]
    exact conv1 W' g (UInt8.ofNat m) _ hu hc
   have HU := Lib.hid (And.intro hu kc)
   clear ht hll hrt hpk hO hone hu kc hsl hrl
   go_enter Tryz.func85, Tryz.ntmps85
   go_wp2_with fail
   refine kt.mono ?_
   rintro e w1 ⟨rfl, b1⟩
   have y0 := b1.drew
   have y9 := (b1.alloc b1.size (.cells #[.int .u8 (m : Int)] 5)).drew
   have x9 : (w1.alloc (.cells #[.int .u8 (m : Int)] 5)).drew.cell? ⟨w1.heap.size, 0, none⟩ = some (.int .u8 (m : Int)) := (Blk.new w1 5 #[.int .u8 (m : Int)]).cell 0
   have X9 := Lib.hid x9
   clear x9 c0 c1 c2 kt
   go_wp2_with fail
   refine wp_region_noPanic ?_
   refine wp_region_held_drew (S := (fun w' => w'.cell? ⟨w.heap.size, 0, none⟩ = some (.string ⟨seed.toArray⟩) ∧ w'.cell? ⟨w.heap.size, 1, none⟩ = some (.int .i64 (m : Int)) ∧ w'.cell? ⟨w.heap.size, 2, none⟩ = some (.int .i64 n))) (by kernel_rfl) ?_ (fun hH0 => ?_)
   ·exact HB.out.1 _ y0
   refine tk 0 7 hH0 ?_
   refine tk 3 10 hH0 ?_
   refine tk 4 11 hH0 ?_
   refine tk 5 12 hH0 ?_
   refine rdy [1, 6] ?_
   refine ad 8 (fun K hK => ?_) ?_
   go_simp; (
    with_reducible refine (kL w1.drew).mono ?_
    rintro e v1 ⟨A1, c1, rfl, hc1, hm1, t1⟩
    have yL := y0.trans (t1.below.mono y0.size)
    have rL := Rd.of_own t1.own); go_wp2_with fail
   refine hK.out _ _ ?_ (fun hH1 => ?_)
   ·exact HB.out.1 _ yL
   clear hK K hH0
   try simp only [pu]
   refine rdy [2, 6] ?_
   refine ad 9 (fun K hK => ?_) ?_
   go_simp; (
    with_reducible refine (kR v1 A1 c1 rL hc1 hm1).mono ?_
    rintro e v2 ⟨rfl, b2⟩
    have yR := yL.trans (b2.mono yL.size)); go_wp2_with fail
   refine hK.out _ _ ?_ (fun hH2 => ?_)
   ·exact HB.out.1 _ yR
   clear hK K hH1
   try simp only [pu]
   refine rdy [6] ?_
   refine an 13 fun K hK => ?_
   go_simp
   refine hK.out _ _ ?_ (fun hH3 => ?_)
   ·exact HB.out.1 _ (yR.alloc yR.size _)
   clear hK K hH2
   try simp only [pu]
   refine rdy [7] ?_
   refine an 14 fun K hK => ?_
   (refine stepV 76 9 _ (by rfl) (by rfl) (by rfl) (HU.out.2 _ _ ((Blk.new v2 5 #[.int .u8 (m : Int)]).cell 0)) ?_)
   refine hK.out _ _ ?_ (fun hH4 => ?_)
   ·exact HB.out.1 _ (yR.alloc yR.size _)
   clear hK K hH3
   try simp only [pu]
   refine tk 8 15 hH4 ?_
   refine tk 9 2 hH4 ?_
   refine tk 10 3 hH4 ?_
   refine dn ?_ _
   rotate_left 1
   refine an 13 fun K hK => ?_
   go_simp
   refine hK.out _ _ ?_ (fun hH5 => ?_)
   ·exact HB.out.1 _ (yL.alloc yL.size _)
   clear hK K hH1
   try simp only [pu]
   refine rdy [2, 7] ?_
   refine ad 9 (fun K hK => ?_) ?_
   go_simp; (
    with_reducible refine (kR (v1.alloc (.cells #[.int .u8 (m : Int)] 5)) A1 c1 (rL.alloc _) hc1 hm1).mono ?_
    rintro e v2 ⟨rfl, b2⟩
    have xR := Lib.hid (below_cell b2 ((Blk.new v1 5 #[.int .u8 (m : Int)]).cell 0))
    have yR := (yL.alloc yL.size (.cells #[.int .u8 (m : Int)] 5)).trans (b2.mono (yL.alloc yL.size (.cells #[.int .u8 (m : Int)] 5)).size)); go_wp2_with fail
   refine hK.out _ _ ?_ (fun hH6 => ?_)
   ·exact HB.out.1 _ yR
   clear hK K hH5
   try simp only [pu]
   refine rdy [7] ?_
   refine an 14 fun K hK => ?_
   (refine stepV 76 9 _ (by rfl) (by rfl) (by rfl) (HU.out.2 _ _ xR.out) ?_)
   refine hK.out _ _ ?_ (fun hH7 => ?_)
   ·exact HB.out.1 _ yR
   clear hK K hH6
   try simp only [pu]
   refine tk 8 15 hH7 ?_
   refine tk 9 2 hH7 ?_
   refine tk 10 3 hH7 ?_
   refine dn ?_ _
   rotate_left 1
   refine an 14 fun K hK => ?_
   (refine stepV 76 9 _ (by rfl) (by rfl) (by rfl) (HU.out.2 _ _ ((Blk.new v1 5 #[.int .u8 (m : Int)]).cell 0)) ?_)
   refine hK.out _ _ ?_ (fun hH8 => ?_)
   ·exact HB.out.1 _ (yL.alloc yL.size _)
   clear hK K hH5
   try simp only [pu]
   refine rdy [2] ?_
   refine an 9 fun K hK => ?_
   go_simp; (
    with_reducible refine (kR (v1.alloc (.cells #[.int .u8 (m : Int)] 5)) A1 c1 (rL.alloc _) hc1 hm1).mono ?_
    rintro e v2 ⟨rfl, b2⟩
    have xR := Lib.hid (below_cell b2 ((Blk.new v1 5 #[.int .u8 (m : Int)]).cell 0))
    have yR := (yL.alloc yL.size (.cells #[.int .u8 (m : Int)] 5)).trans (b2.mono (yL.alloc yL.size (.cells #[.int .u8 (m : Int)] 5)).size)); go_wp2_with fail
   refine hK.out _ _ ?_ (fun hH9 => ?_)
   ·exact HB.out.1 _ yR
   clear hK K hH8
   try simp only [pu]
   refine tk 8 15 hH9 ?_
   refine tk 9 2 hH9 ?_
   refine tk 10 3 hH9 ?_
   refine dn ?_ _
   rotate_left 1
   refine an 13 fun K hK => ?_
   go_simp
   refine hK.out _ _ ?_ (fun hH10 => ?_)
   ·exact HB.out.1 _ y9
   clear hK K hH0
   try simp only [pu]
   refine rdy [1, 7] ?_
   refine ad 8 (fun K hK => ?_) ?_
   go_simp; (
    with_reducible refine (kL (w1.alloc (.cells #[.int .u8 (m : Int)] 5)).drew).mono ?_
    rintro e v1 ⟨A1, c1, rfl, hc1, hm1, t1⟩
    have yL := y9.trans (t1.below.mono y9.size)
    have rL := Rd.of_own t1.own
    have xL := Lib.hid (below_cell t1.below X9.out)); go_wp2_with fail
   refine hK.out _ _ ?_ (fun hH11 => ?_)
   ·exact HB.out.1 _ yL
   clear hK K hH10
   try simp only [pu]
   refine rdy [2, 7] ?_
   refine ad 9 (fun K hK => ?_) ?_
   go_simp; (
    with_reducible refine (kR v1 A1 c1 rL hc1 hm1).mono ?_
    rintro e v2 ⟨rfl, b2⟩
    have xR := Lib.hid (below_cell b2 xL.out)
    have yR := yL.trans (b2.mono yL.size)); go_wp2_with fail
   refine hK.out _ _ ?_ (fun hH12 => ?_)
   ·exact HB.out.1 _ yR
   clear hK K hH11
   try simp only [pu]
   refine rdy [7] ?_
   refine an 14 fun K hK => ?_
   (refine stepV 76 9 _ (by rfl) (by rfl) (by rfl) (HU.out.2 _ _ xR.out) ?_)
   refine hK.out _ _ ?_ (fun hH13 => ?_)
   ·exact HB.out.1 _ yR
   clear hK K hH12
   try simp only [pu]
   refine tk 8 15 hH13 ?_
   refine tk 9 2 hH13 ?_
   refine tk 10 3 hH13 ?_
   refine dn ?_ _
   rotate_left 1
   refine an 14 fun K hK => ?_
   (refine stepV 76 9 _ (by rfl) (by rfl) (by rfl) (HU.out.2 _ _ xL.out) ?_)
   refine hK.out _ _ ?_ (fun hH14 => ?_)
   ·exact HB.out.1 _ yL
   clear hK K hH11
   try simp only [pu]
   refine rdy [2] ?_
   refine an 9 fun K hK => ?_
   go_simp; (
    with_reducible refine (kR v1 A1 c1 rL hc1 hm1).mono ?_
    rintro e v2 ⟨rfl, b2⟩
    have xR := Lib.hid (below_cell b2 xL.out)
    have yR := yL.trans (b2.mono yL.size)); go_wp2_with fail
   refine hK.out _ _ ?_ (fun hH15 => ?_)
   ·exact HB.out.1 _ yR
   clear hK K hH14
   try simp only [pu]
   refine tk 8 15 hH15 ?_
   refine tk 9 2 hH15 ?_
   refine tk 10 3 hH15 ?_
   refine dn ?_ _
   rotate_left 1
   refine an 14 fun K hK => ?_
   (refine stepV 76 9 _ (by rfl) (by rfl) (by rfl) (HU.out.2 _ _ X9.out) ?_)
   refine hK.out _ _ ?_ (fun hH16 => ?_)
   ·exact HB.out.1 _ y9
   clear hK K hH10
   try simp only [pu]
   refine rdy [1] ?_
   refine an 8 fun K hK => ?_
   go_simp; (
    with_reducible refine (kL (w1.alloc (.cells #[.int .u8 (m : Int)] 5)).drew).mono ?_
    rintro e v1 ⟨A1, c1, rfl, hc1, hm1, t1⟩
    have yL := y9.trans (t1.below.mono y9.size)
    have rL := Rd.of_own t1.own
    have xL := Lib.hid (below_cell t1.below X9.out)); go_wp2_with fail
   refine hK.out _ _ ?_ (fun hH17 => ?_)
   ·exact HB.out.1 _ yL
   clear hK K hH16
   try simp only [pu]
   refine rdy [2] ?_
   refine an 9 fun K hK => ?_
   go_simp; (
    with_reducible refine (kR v1 A1 c1 rL hc1 hm1).mono ?_
    rintro e v2 ⟨rfl, b2⟩
    have xR := Lib.hid (below_cell b2 xL.out)
    have yR := yL.trans (b2.mono yL.size)); go_wp2_with fail
   refine hK.out _ _ ?_ (fun hH18 => ?_)
   ·exact HB.out.1 _ yR
   clear hK K hH17
   try simp only [pu]
   refine tk 8 15 hH18 ?_
   refine tk 9 2 hH18 ?_
   refine tk 10 3 hH18 ?_
   refine dn ?_ _
   all_goals (refine NoPanic.normal ?_)
   all_goals
    go_wp2
    go_ret2
    first
     | exact ⟨rfl, b0.trans (yR.mono b0.size)⟩
     | exact ⟨rfl, b0.trans ((yR.alloc yR.size _).mono b0.size)⟩
end Go.Proofs.YtjjpdnpbhdcpbaaGreat
