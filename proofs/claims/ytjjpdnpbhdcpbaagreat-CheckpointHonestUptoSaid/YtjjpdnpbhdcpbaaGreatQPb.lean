/- Lemmas and contracts on what the walks need, several small texts in one. Conditions: as each theorem states. -/
import Derived.Test.YtjjpdnpbhdcpbaaGreatQSgJ
import Derived.Test.YtjjpdnpbhdcpbaaGreatQCdB
import Derived.Test.YtjjpdnpbhdcpbaaGreatQCdA
import Derived.Test.YtjjpdnpbhdcpbaaGreatQMkB
namespace Go.Proofs.YtjjpdnpbhdcpbaaGreat
set_option linter.unusedVariables false
open Go.RowKit Go.Shelf
attribute [local go_sem] Oper.semAt_some
theorem rd_ints1 (W : World) (a : Nat) : Rd (W.alloc (.cells #[.int .i64 (a : Int)] 3)) (some ⟨W.heap.size, 0, none⟩) (nints [a]) := rd_new W _ _
def okB (i : Int) (C T : List Sg.Str) : Bool :=
 if 0 ≤ i then if C.length = 67 then if T.length ≤ 6 then if vld C = true then vld T else false else false else false else false
def encS (i : Int) (C T : List Sg.Str) : Sg.Str := Cd.uns i.toNat ++ Cd.texts C ++ Cd.texts T
def encE (i : Int) (C T : List Sg.Str) : Sg.Str × Int := if okB i C T = true then (encS i C T, 0) else ([], 1)
theorem vld_body {L : List Sg.Str} (h : vld L = true) (hl : L.length ≤ 1000000) : (Cd.body L).length ≤ 1000000000 := by
 have h1 : ∀ s ∈ L, s.length = 32 := (vld_iff L).1 h
 have h2 := flat_le (fun s : Sg.Str => Cd.text (s.take 32)) 42 (fun s => by
  have h3 := Cd.uns_len (s.take 32).length
  have h4 : (s.take 32).length ≤ 32 := by rw [List.length_take]; omega
  unfold Cd.text
  rw [List.length_append]
  omega) L
 have h3 : (L.map (fun s : Sg.Str => Cd.text (s.take 32))).flatten = Cd.body L := by
  unfold Cd.body
  congr 1
  refine List.map_congr_left fun s hs => ?_
  rw [List.take_of_length_le (Nat.le_of_eq (h1 s hs))]
 rw [h3] at h2
 omega
set_option maxRecDepth 20000 in
set_option maxHeartbeats 4000000 in
theorem encode_spec (i : Int) (C T : List Sg.Str) (A B : Option Addr) (cC cT : Nat) (w : World) (hi : i < 9223372036854775808) (hC : Rd w A (strs C)) (hT : Rd w B (strs T)) (h1 : C.length ≤ cC) (h2 : cC ≤ maxLen) (h3 : T.length ≤ cT) (h4 : cT ≤ maxLen) :
 Calls Tryz.prog 67 #[.agg #[.int .i64 i, .slice A C.length cC, .slice B T.length cT]] w fun e w' => e = .returned (.tuple #[.string ⟨(encE i C T).1.toArray⟩, .int .i64 (encE i C T).2]) ∧ Below w.heap.size w w' := by
 have f3 : ¬ (IntKind.i64.max < (C.length : Int)) := by unfold maxLen at h2; show ¬ ((9223372036854775807 : Int) < _); omega
 have f4 : ¬ (IntKind.i64.max < (T.length : Int)) := by unfold maxLen at h4; show ¬ ((9223372036854775807 : Int) < _); omega
 unfold encE okB
 obtain ⟨W, hW⟩ : ∃ W, w.alloc (.cells #[.int .i64 i, .slice A C.length cC, .slice B T.length cT] 29) = W := ⟨_, rfl⟩
 have b0 : Below w.heap.size w W := by rw [← hW]; exact (Below.refl _ w).alloc (Nat.le_refl _) _
 have bl : Blk W w.heap.size 29 #[.int .i64 i, .slice A C.length cC, .slice B T.length cT] := by rw [← hW]; exact Blk.new w _ _
 have k0 := bl.cell 0
 have k1 := bl.cell 1
 have k2 := bl.cell 2
 have kc := contains_func 110 (enters_of Tryz.func110 (by kernel_rfl) rfl) undigested_spec A C cC W (hC.below b0) (by unfold maxLen at h2; omega)
 have kt := contains_func 110 (enters_of Tryz.func110 (by kernel_rfl) rfl) undigested_spec B T cT W (hT.below b0) (by unfold maxLen at h4; omega)
 go_enter Tryz.func67, Tryz.ntmps67
 by_cases c1 : 0 ≤ i
 ·rw [if_pos c1]
  have c1' : ¬ (i < 0) := by omega
  by_cases c2 : C.length = 67
  ·rw [if_pos c2]
   rw [c2] at k1 f3 hW bl h1 kc ⊢
   by_cases c3 : T.length ≤ 6
   ·rw [if_pos c3]
    have c3' : ¬ ((6 : Int) < (T.length : Int)) := by omega
    cases c4 : vld C with
    | false =>
      rw [c4] at kc
      rw [if_neg (by simp)]
      clear c4
      go_wp2_with fail
      refine kc.mono ?_
      rintro e w1 ⟨rfl, rfl⟩
      go_wp2
      go_ret2
      exact ⟨rfl, b0⟩
    | true =>
      rw [c4] at kc
      rw [if_pos rfl]
      cases c5 : vld T with
      | false =>
        rw [c5] at kt
        rw [if_neg (by simp)]
        clear c4 c5
        go_wp2_with fail
        refine kc.mono ?_
        rintro e w1 ⟨rfl, rfl⟩
        go_wp2_with fail
        refine kt.mono ?_
        rintro e w1 ⟨rfl, rfl⟩
        go_wp2
        go_ret2
        exact ⟨rfl, b0⟩
      | true =>
        rw [c5] at kt
        rw [if_pos rfl]
        obtain ⟨n, rfl⟩ : ∃ n : Nat, i = (n : Int) := ⟨i.toNat, by omega⟩
        unfold encS
        rw [Int.toNat_natCast]
        have hnu : Sg.nums [n] = Cd.uns n := by simp [Sg.nums]
        have kn := fun W' => numbers_spec (some ⟨W'.heap.size, 0, none⟩) [n] 1 (W'.alloc (.cells #[.int .i64 (n : Int)] 3)).drew (rd_ints1 W' n) (by simp) (fun k h => by
         match k, h with
         | 0, _ => exact (by omega : n < 9223372036854775808))
        simp only [hnu, List.length_cons, List.length_nil, Nat.zero_add] at kn
        have hbC := vld_body c4 (by omega)
        have hbT := vld_body c5 (by omega)
        have kC := fun (W' : World) (hh : Below W.heap.size W W') => texts_spec A C cC W' ((hC.below b0).below hh) (by omega) (by omega)
        have kT := fun (W' : World) (hh : Below W.heap.size W W') => texts_spec B T cT W' ((hT.below b0).below hh) (by omega) (by omega)
        rw [c2] at kC
        have hU := Cd.uns_len n
        have hX : (Cd.texts C).length ≤ 1000000010 := by
         have := Cd.uns_len C.length
         unfold Cd.texts
         rw [List.length_append]
         omega
        have hY : (Cd.texts T).length ≤ 1000000010 := by
         have := Cd.uns_len T.length
         unfold Cd.texts
         rw [List.length_append]
         omega
        generalize Cd.uns n = U at kn hU ⊢
        generalize Cd.texts C = X at kC hX ⊢
        generalize Cd.texts T = Y at kT hY ⊢
        obtain ⟨f5, f6⟩ := sg_cat U X (by omega)
        obtain ⟨f7, f8⟩ := sg_cat (U ++ X) Y (by rw [List.length_append]; omega)
        have ha1 := bytes_append U X
        have ha2 := bytes_append (U ++ X) Y
        generalize U ++ X = V at ha1 ha2 f7 f8 ⊢
        generalize V ++ Y = Z at ha2 ⊢
        have hS : ∀ W', Below W.heap.size W W' → W'.cell? ⟨w.heap.size, 0, none⟩ = some (.int .i64 (n : Int)) ∧ W'.cell? ⟨w.heap.size, 1, none⟩ = some (.slice A 67 cC) ∧ W'.cell? ⟨w.heap.size, 2, none⟩ = some (.slice B T.length cT) := fun W' hh => ⟨below_cell hh k0, below_cell hh k1, below_cell hh k2⟩
        have HS := Lib.hid hS
        have HB := Lib.hid (And.intro b0 bl)
        have y0 := (Below.refl W.heap.size W).drew
        have y9 := ((Below.refl W.heap.size W).alloc (Nat.le_refl _) (.cells #[.int .i64 (n : Int)] 3)).drew
        clear hS c4 c5 hbC hbT hnu bl b0 hC hT
        go_wp2_with fail
        refine kc.mono ?_
        rintro e w1 ⟨rfl, rfl⟩
        go_wp2_with fail
        refine kt.mono ?_
        rintro e w1 ⟨rfl, rfl⟩
        clear kc kt k0 k1 k2
        go_wp2_with fail
        refine wp_region_noPanic ?_
        refine wp_region_held_drew (S := (fun w' => w'.cell? ⟨w.heap.size, 0, none⟩ = some (.int .i64 (n : Int)) ∧ w'.cell? ⟨w.heap.size, 1, none⟩ = some (.slice A 67 cC) ∧ w'.cell? ⟨w.heap.size, 2, none⟩ = some (.slice B T.length cT))) (by kernel_rfl) ?_ (fun hH0 => ?_)
        ·exact HS.out _ y0
        refine tk 0 29 hH0 ?_
        refine tk 1 30 hH0 ?_
        refine tk 4 33 hH0 ?_
        refine tk 5 34 hH0 ?_
        refine tk 8 37 hH0 ?_
        refine tk 9 38 hH0 ?_
        refine rdy [2] ?_
        refine an 31 fun K hK => ?_
        go_simp
        refine hK.out _ _ ?_ (fun hH1 => ?_)
        ·exact HS.out _ y9
        clear hK K hH0
        try simp only [pu]
        refine rdy [3] ?_
        refine an 32 fun K hK => ?_
        go_simp; (
         with_reducible refine (kn _).mono ?_
         rintro e v1 ⟨rfl, b1⟩
         have yn := y9.trans (b1.mono y9.size)); go_wp2_with fail
        refine hK.out _ _ ?_ (fun hH2 => ?_)
        ·exact HS.out _ yn
        clear hK K hH1
        try simp only [pu]
        refine rdy [6] ?_
        refine an 35 fun K hK => ?_
        go_simp; (
         with_reducible refine (kC v1 yn).mono ?_
         rintro e v2 ⟨rfl, b2⟩
         have yC := yn.trans (b2.mono yn.size)); go_wp2_with fail
        refine hK.out _ _ ?_ (fun hH3 => ?_)
        ·exact HS.out _ yC
        clear hK K hH2
        try simp only [pu]
        refine tk 7 36 hH3 ?_
        refine rdy [10] ?_
        refine an 39 fun K hK => ?_
        go_simp; (
         with_reducible refine (kT v2 yC).mono ?_
         rintro e v3 ⟨rfl, b3⟩
         have yT := yC.trans (b3.mono yC.size)); go_wp2_with fail
        refine hK.out _ _ ?_ (fun hH4 => ?_)
        ·exact HS.out _ yT
        clear hK K hH3
        try simp only [pu]
        refine tk 11 40 hH4 ?_
        refine tk 12 2 hH4 ?_
        refine tk 13 3 hH4 ?_
        refine dn ?_ _
        all_goals (refine NoPanic.normal ?_)
        all_goals
         go_wp2
         go_ret2
         exact ⟨rfl, HB.out.1.trans (yT.mono HB.out.1.size)⟩
   ·rw [if_neg c3]
    have c3' : (6 : Int) < (T.length : Int) := by omega
    rw [if_neg (by simp)]
    go_wp2
    go_ret2
    exact ⟨rfl, b0⟩
  ·rw [if_neg c2]
   have c2' : ¬ ((C.length : Int) = 67) := by omega
   rw [if_neg (by simp)]
   go_wp2
   go_ret2
   exact ⟨rfl, b0⟩
 ·rw [if_neg c1]
  have c1' : i < 0 := by omega
  rw [if_neg (by simp)]
  go_wp2
  go_ret2
  exact ⟨rfl, b0⟩
section
variable {lo : Nat} {w0 w : World} {Rs : List Res} {r at_ : Nat} {s : Sg.Str} {e : Int}
abbrev rrR (r : Nat) (s : Sg.Str) (at_ : Nat) (e : Int) : Res := cellsR r 146 #[.string ⟨s.toArray⟩, .int .i64 (at_ : Int), .int .i64 e]
theorem s_newReader (h : St lo w0 w Rs) (s : Sg.Str) : Calls Tryz.prog 73 #[.string ⟨s.toArray⟩] w fun e w' => e = .returned (.pointer (some ⟨w.heap.size, 0, none⟩)) ∧ St lo w0 w' (rrR w.heap.size s 0 0 :: Rs) :=
 (newReader_spec s w).mono fun e w' ⟨h1, h2, h3⟩ => ⟨h1, h.new (F := fun k => k = w.heap.size) h3 ⟨h2, rfl⟩ (fun k hk => by subst hk; exact Nat.le_refl _)⟩
theorem s_uint (h : St lo w0 w (rrR r s at_ e :: Rs)) (hs : s.length ≤ 1099511627776) (ha : at_ ≤ s.length) : Calls Tryz.prog 75 #[.pointer (some ⟨r, 0, none⟩)] w fun e' w' => e' = .returned (.int .i64 (uintR s at_ e).1) ∧ St lo w0 w' (rrR r s (uintR s at_ e).2.1 (uintR s at_ e).2.2 :: Rs) := by
 obtain ⟨F, ⟨h1, rfl⟩, h2, h3⟩ := h.open
 refine (ruint_spec r s at_ e w h1 hs ha).mono ?_
 rintro e' w' ⟨rfl, k1, k2⟩
 exact ⟨rfl, h3 (F' := fun k => k = r) _ k2 ⟨k1, rfl⟩ (fun k hk => .inl hk)⟩
theorem s_texts (h : St lo w0 w (rrR r s at_ e :: Rs)) (hs : s.length ≤ 1099511627776) (ha : at_ ≤ s.length) : Calls Tryz.prog 130 #[.pointer (some ⟨r, 0, none⟩)] w fun e' w' => ∃ v, e' = .returned v ∧ St lo w0 w' (ownR 9 1 v (textsR s at_ e).1.length (strs (textsR s at_ e).1) :: rrR r s (textsR s at_ e).2.1 (textsR s at_ e).2.2 :: Rs) := by
 obtain ⟨F, ⟨h1, rfl⟩, h2, h3⟩ := h.split
 refine (rtexts_spec r s at_ e w h1 hs ha).mono ?_
 rintro e' w' ⟨v, rfl, k1, k2, k3⟩
 have hr := Blk.lt h1
 exact ⟨v, rfl, h3 (F' := fun k => v.ownBlock = some k) (G' := fun k => k = r) _ _ k3 ⟨owns_base k1 (fun _ _ => Nat.zero_le _), fun k hk => hk, fun k hk => (k1.lt k hk).2⟩ ⟨k2, rfl⟩ (fun k hk => .inr (k1.lt k hk).1) (fun k hk => .inl hk) (fun k hk hk' => by have := (k1.lt k hk).1; omega)⟩
end
theorem uintR_lt (s : Sg.Str) (at_ : Nat) (e : Int) (ha : at_ ≤ s.length) : (uintR s at_ e).1 < 9223372036854775808 := by
 unfold uintR
 split
 ·show (0 : Int) < _
  decide
 ·split
  ·rename_i h
   have := (Cd.readUint_le h ha).2.2
   show (_ : Int) < _
   omega
  ·show (0 : Int) < _
   decide
end Go.Proofs.YtjjpdnpbhdcpbaaGreat
namespace Go.Proofs.YtjjpdnpbhdcpbaaGreat
set_option linter.unusedVariables false
open Go.RowKit
theorem pubK_last (seed : Sg.Str) (m : Nat) (hm : m ≤ 6) : ((pubK seed m).getD 32 0).toNat = m := by
 have h : (Mk.root (Sg.lvs seed (2 ^ m))).length = 32 := Mk.rootD (Sg.lvs_dig _ _)
 have h2 : (pubK seed m).getD 32 0 = UInt8.ofNat m := by
  unfold pubK
  rw [List.getD_eq_getElem?_getD, List.getElem?_append_right (by omega), h]
  rfl
 rw [h2, UInt8.toNat_ofNat']
 omega
theorem pubK_take (seed : Sg.Str) (m : Nat) : (pubK seed m).take 32 = Mk.root (Sg.lvs seed (2 ^ m)) := by
 have h : (Mk.root (Sg.lvs seed (2 ^ m))).length = 32 := Mk.rootD (Sg.lvs_dig _ _)
 unfold pubK
 rw [List.take_left' h]
theorem lvs_getD (seed : Sg.Str) (n q : Nat) (h : q < n) : (Sg.lvs seed n).getD q [] = Sg.otl seed q := by
 unfold Sg.lvs
 rw [List.getD_eq_getElem?_getD, List.getElem?_map, List.getElem?_range h]
 rfl
theorem accepts (seed : Sg.Str) (m q : Nat) (d : List Nat) (hm : m ≤ 6) (hq : q < 2 ^ m) (hd : ∀ x ∈ d, x ≤ 15) : verB (pubK seed m) d (q : Int) (Sg.chn seed q d 67) (Mk.incl (Sg.lvs seed (2 ^ m)) q) = true := by
 have hP := pow6 hm
 unfold verB
 rw [if_pos (pubK_len seed m), pubK_last seed m hm, if_pos hm, if_pos (by omega), if_pos (by omega), if_pos (Sg.chn_len _ _ _ _), if_pos ((vld_iff _).2 (Sg.chn_dig _ _ _ _)), pubK_take, Int.toNat_natCast, Sg.ends_chn seed q d hd 67 67 (Nat.le_refl _)]
 show incB (Sg.otl seed q) (q : Int) ((2 ^ m : Nat) : Int) _ _ = true
 have h := incB_ok (Sg.lvs_dig seed (2 ^ m)) (by rw [Sg.lvs_len]; omega) q (by rw [Sg.lvs_len]; exact hq)
 have hg := lvs_getD seed (2 ^ m) q hq
 rw [List.getD_eq_getElem?_getD, List.getElem?_eq_getElem (by rw [Sg.lvs_len]; exact hq)] at hg
 rw [show (Sg.lvs seed (2 ^ m))[q]'(by rw [Sg.lvs_len]; exact hq) = Sg.otl seed q from hg, Sg.lvs_len] at h
 exact h
theorem depth_le : ∀ (m n i : Nat), n ≤ 2 ^ m → Mk.depth i n ≤ m
 | 0, n, i, h => by rw [Mk.depth_one i n (by simp at h; omega)]; exact Nat.le_refl 0
 | m + 1, n, i, h => by
   by_cases h2 : n < 2
   ·rw [Mk.depth_one i n h2]; omega
   ·have hk0 := Mk.split_pos n
    have hk1 := Mk.split_lt (n := n) (by omega)
    have hk2 := Mk.split_ge (n := n) (by omega)
    have hs : Mk.split n ≤ 2 ^ m := by
     have e : Mk.split n = 2 ^ Nat.log2 (n - 1) := rfl
     rw [e] at hk1 ⊢
     refine Nat.pow_le_pow_right (by decide) ?_
     have : 2 ^ Nat.log2 (n - 1) < 2 ^ (m + 1) := by omega
     have := (Nat.pow_lt_pow_iff_right (a := 2) (by decide)).1 this
     omega
    by_cases hi : i < Mk.split n
    ·rw [Mk.depth_left i n (by omega) hi]
     have := depth_le m (Mk.split n) i hs
     omega
    ·rw [Mk.depth_right i n (by omega) hi]
     have := depth_le m (n - Mk.split n) (i - Mk.split n) (by omega)
     omega
theorem incl_le (seed : Sg.Str) (m q : Nat) : (Mk.incl (Sg.lvs seed (2 ^ m)) q).length ≤ m := by
 rw [Mk.incl_length (2 ^ m) _ q (Sg.lvs_len _ _)]
 exact depth_le m _ q (Nat.le_refl _)
theorem okB_sign (seed : Sg.Str) (m q : Nat) (d : List Nat) (hm : m ≤ 6) : okB (q : Int) (Sg.chn seed q d 67) (Mk.incl (Sg.lvs seed (2 ^ m)) q) = true := by
 have hl := incl_le seed m q
 unfold okB
 rw [if_pos (by omega), if_pos (Sg.chn_len _ _ _ _), if_pos (by omega), if_pos ((vld_iff _).2 (Sg.chn_dig _ _ _ _))]
 exact vld_of (Mk.incl_dig _ _ q (Nat.le_refl _) (Sg.lvs_dig _ _))
theorem okB_parts {i : Int} {C T : List Sg.Str} (ho : okB i C T = true) : 0 ≤ i ∧ C.length = 67 ∧ T.length ≤ 6 ∧ vld C = true ∧ vld T = true := by
 unfold okB at ho
 by_cases c1 : 0 ≤ i
 ·rw [if_pos c1] at ho
  by_cases c2 : C.length = 67
  ·rw [if_pos c2] at ho
   by_cases c3 : T.length ≤ 6
   ·rw [if_pos c3] at ho
    by_cases c4 : vld C = true
    ·rw [if_pos c4] at ho; exact ⟨c1, c2, c3, c4, ho⟩
    ·rw [if_neg c4] at ho; cases ho
   ·rw [if_neg c3] at ho; cases ho
  ·rw [if_neg c2] at ho; cases ho
 ·rw [if_neg c1] at ho; cases ho
theorem treeB_ok (seed : Sg.Str) (m : Nat) (hs : seed.length = 32) (hm : m ≤ 6) : treeB seed (m : Int) = true := by
 unfold treeB
 simp only [Bool.and_eq_true, decide_eq_true_eq]
 exact ⟨hs, by omega, by omega⟩
theorem validB_ok (seed : Sg.Str) (m q : Nat) (hs : seed.length = 32) (hm : m ≤ 6) (hq : q ≤ 2 ^ m) : validB seed (m : Int) (q : Int) = true := by
 unfold validB
 rw [treeB_ok seed m hs hm, Int.toNat_natCast]
 simp only [Bool.true_and, Bool.and_eq_true, decide_eq_true_eq]
 exact ⟨by omega, by omega⟩
theorem pubR_ok (seed : Sg.Str) (m : Nat) (hs : seed.length = 32) (hm : m ≤ 6) : pubR seed (m : Int) = (pubK seed m, 0) := by
 unfold pubR
 rw [if_pos (treeB_ok seed m hs hm), Int.toNat_natCast]
theorem signR_ok (seed : Sg.Str) (m q : Nat) (d : List Nat) (hs : seed.length = 32) (hm : m ≤ 6) (hq : q < 2 ^ m) : signR seed (m : Int) (q : Int) d = (((q : Int), Sg.chn seed q d 67, Mk.incl (Sg.lvs seed (2 ^ m)) q), (seed, (m : Int), (q : Int) + 1), 0) := by
 unfold signR
 rw [if_pos (validB_ok seed m q hs hm (by omega)), Int.toNat_natCast, Int.toNat_natCast, if_neg (by omega)]
end Go.Proofs.YtjjpdnpbhdcpbaaGreat
