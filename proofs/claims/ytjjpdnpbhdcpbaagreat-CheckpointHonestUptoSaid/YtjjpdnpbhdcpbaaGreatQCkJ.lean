/-
  Checkpoints: the bytes of a checkpoint, in the program. Conditions: indices below 2^63.
-/
import Derived.Test.YtjjpdnpbhdcpbaaGreatQCkI
import Derived.Test.YtjjpdnpbhdcpbaaGreatQPb
namespace Go.Proofs.YtjjpdnpbhdcpbaaGreat
set_option linter.unusedVariables false
open Go.RowKit Go.Shelf
attribute [local go_sem] Oper.semAt_some
theorem vld_body42 {L : List Sg.Str} (h : vld L = true) : (Cd.body L).length ≤ 42 * L.length := by
 have h1 : ∀ s ∈ L, s.length = 32 := (vld_iff L).1 h
 have h2 := flat_le (fun s : Sg.Str => Cd.text (s.take 32)) 42 (fun s => by
  have h3 := Cd.uns_len (s.take 32).length
  have h4 : (s.take 32).length ≤ 32 := by rw [List.length_take]; omega
  unfold Cd.text
  rw [List.length_append]
  omega) L
 have h3 : (L.map (fun s : Sg.Str => Cd.text (s.take 32))).flatten = Cd.body L := by
  unfold Cd.body
  congr 1
  refine List.map_congr_left fun s hs => ?_
  rw [List.take_of_length_le (Nat.le_of_eq (h1 s hs))]
 rw [h3] at h2
 omega
theorem encS_small {i : Int} {C T : List Sg.Str} (ho : okB i C T = true) : (encS i C T).length ≤ 4000 := by
 obtain ⟨_, c2, c3, c4, c5⟩ := okB_parts ho
 have h1 := vld_body42 c4
 have h2 := vld_body42 c5
 have h3 := Cd.uns_len i.toNat
 have h4 := Cd.uns_len C.length
 have h5 := Cd.uns_len T.length
 unfold encS Cd.texts
 simp only [List.length_append]
 omega
def ckEncL (acc : Sg.Str) : List SgRow → Sg.Str × Int
 | [] => (acc, 0)
 | x :: L => if okB x.i x.C x.T = true then (if x.key.length ≤ 65536 then ckEncL (acc ++ (Cd.text x.key ++ encS x.i x.C x.T)) L else ([], 1)) else ([], 1)
def ckEnc (o : Sg.Str) (z : Int) (r : Sg.Str) (i : Int) (C T : List Sg.Str) (L : List SgRow) : Sg.Str × Int :=
 if okB i C T = true then (if headB o z r = true then (if L.length ≤ 1024 then ckEncL (headS o z r ++ (encS i C T ++ Cd.uns L.length)) L else ([], 1)) else ([], 1)) else ([], 1)
theorem ckEnc_drop (acc : Sg.Str) (L : List SgRow) (k : Nat) (hk : k < L.length) : ckEncL acc (L.drop k) = if okB L[k].i L[k].C L[k].T = true then (if L[k].key.length ≤ 65536 then ckEncL (acc ++ (Cd.text L[k].key ++ encS L[k].i L[k].C L[k].T)) (L.drop (k + 1)) else ([], 1)) else ([], 1) := by
 rw [List.drop_eq_getElem_cons hk]
 rfl
set_option maxRecDepth 20000 in
set_option maxHeartbeats 4000000 in
theorem ckencode_spec (o : Sg.Str) (z : Int) (r : Sg.Str) (si : Int) (sA sB : Option Addr) (sC sT : List Sg.Str) (sa sb : Nat) (X : Option Addr) (L : List SgRow) (c : Nat) (w : World) (hR : RowsR w X L) (hI : ∀ x ∈ L, x.i < 9223372036854775808) (hsi : si < 9223372036854775808)
 (hC : Rd w sA (strs sC)) (hT : Rd w sB (strs sT)) (h1 : sC.length ≤ sa) (h2 : sa ≤ maxLen) (h3 : sT.length ≤ sb) (h4 : sb ≤ maxLen) :
 Calls Tryz.prog 30 #[.agg #[.string ⟨o.toArray⟩, .int .i64 z, .string ⟨r.toArray⟩, .int .i64 si, .slice sA sC.length sa, .slice sB sT.length sb, .slice X L.length c]] w fun e w' => e = .returned (.tuple #[.string ⟨(ckEnc o z r si sC sT L).1.toArray⟩, .int .i64 (ckEnc o z r si sC sT L).2]) ∧ Below w.heap.size w w' := by
 obtain ⟨N, hN⟩ : ∃ N, L.length = N := ⟨_, rfl⟩
 unfold ckEnc
 rw [hN]
 have b0 := (Below.refl w.heap.size w).alloc (Nat.le_refl _) (.cells #[.string ⟨o.toArray⟩, .int .i64 z, .string ⟨r.toArray⟩, .int .i64 si, .slice sA sC.length sa, .slice sB sT.length sb, .slice X N c] 32)
 have bk := Blk.new w 32 #[.string ⟨o.toArray⟩, .int .i64 z, .string ⟨r.toArray⟩, .int .i64 si, .slice sA sC.length sa, .slice sB sT.length sb, .slice X N c]
 obtain ⟨W0, hW0⟩ : ∃ W0, w.alloc (.cells #[.string ⟨o.toArray⟩, .int .i64 z, .string ⟨r.toArray⟩, .int .i64 si, .slice sA sC.length sa, .slice sB sT.length sb, .slice X N c] 32) = W0 := ⟨_, rfl⟩
 rw [hW0] at b0 bk
 have ke := encode_spec si sC sT sA sB sa sb W0 hsi (hC.below b0) (hT.below b0) h1 h2 h3 h4
 have kh := fun W' => headed_spec o z r W'
 have q3 := bk.cell 3
 have q4 := bk.cell 4
 have q5 := bk.cell 5
 unfold encE at ke
 cases ho : okB si sC sT with
 | false =>
   rw [ho, if_neg (by decide)] at ke
   rw [if_neg (by decide)]
   have B0 := Lib.hid b0
   clear hR hI hC hT h1 h2 h3 h4 bk b0 ho hN
   go_enter Tryz.func30, Tryz.ntmps30
   go_wp2_with fail
   refine ke.mono ?_
   rintro e w1 ⟨rfl, b1⟩
   have b1 := Lib.hid (B0.out.trans (b1.mono B0.out.size))
   clear ke hW0 q3 q4 q5
   go_wp2
   go_ret2
   exact ⟨rfl, b1.out⟩
 | true =>
   rw [ho, if_pos rfl] at ke
   rw [if_pos rfl]
   have hes := encS_small ho
   have HR := Lib.hid (And.intro hN (And.intro (hR.below b0) (And.intro hI (And.intro bk b0))))
   clear hR hI hC hT h1 h2 h3 h4 ho hN
   generalize encS si sC sT = E at ke hes ⊢
   cases hh : headB o z r with
   | false =>
     rw [hh] at kh
     rw [if_neg (by decide)]
     clear hh
     go_enter Tryz.func30, Tryz.ntmps30
     go_wp2_with fail
     refine ke.mono ?_
     rintro e w1 ⟨rfl, b1⟩
     have k1 := bk.below b1
     have h0 := k1.cell 0
     have h1 := k1.cell 1
     have h2 := k1.cell 2
     have y1 := Lib.hid (b0.trans (b1.mono b0.size))
     clear ke hW0 q3 q4 q5 b1 b0 bk k1
     go_wp2_with fail
     refine (kh _).mono ?_
     rintro e w2 ⟨rfl, b2⟩
     have y2 := Lib.hid (y1.out.trans (b2.mono y1.out.size))
     clear b2 h0 h1 h2
     go_wp2
     go_ret2
     exact ⟨rfl, y2.out⟩
   | true =>
     rw [hh] at kh
     rw [if_pos rfl]
     have kb := fun W' => ckbytes_spec o z r W' hh
     have hhl := headS_len hh
     clear hh
     generalize headS o z r = H at kb hhl ⊢
     by_cases hl : N ≤ 1024
     ·rw [if_pos hl]
      have hl' : ¬ ((1024 : Int) < (N : Int)) := by omega
      have kn := fun W' => cknum_spec N (by omega) W'
      have hul := Cd.uns_len N
      generalize Cd.uns N = U at kn hul ⊢
      have g1 := bytes_append H E
      have g2 := bytes_append (H ++ E) U
      obtain ⟨f1, f2⟩ := sg_cat H E (by omega)
      obtain ⟨f3, f4⟩ := sg_cat (H ++ E) U (by rw [List.length_append]; omega)
      simp only [List.length_append] at f3 f4
      obtain ⟨res, hres⟩ : ∃ res, ckEncL (H ++ (E ++ U)) L = res := ⟨_, rfl⟩
      rw [hres]
      have hacc : (H ++ (E ++ U)).length ≤ 10000 := by simp only [List.length_append]; omega
      go_enter Tryz.func30, Tryz.ntmps30
      go_wp2_with fail
      refine ke.mono ?_
      rintro e w1 ⟨rfl, b1⟩
      have k1 := bk.below b1
      have h0 := k1.cell 0
      have h1 := k1.cell 1
      have h2 := k1.cell 2
      clear ke hW0 q3 q4 q5 k1
      go_wp2_with fail
      refine (kh _).mono ?_
      rintro e w2 ⟨rfl, b2⟩
      have y2 := b1.trans (b2.mono b1.size)
      have k6 := (bk.below y2).cell 6
      clear b1 b2 h0 h1 h2 kh
      have HS := Lib.hid (show ∀ W', Below W0.heap.size W0 W' → (W'.cell? ⟨w.heap.size, 0, none⟩ = some (.string ⟨o.toArray⟩) ∧ W'.cell? ⟨w.heap.size, 1, none⟩ = some (.int .i64 z) ∧ W'.cell? ⟨w.heap.size, 2, none⟩ = some (.string ⟨r.toArray⟩) ∧ W'.cell? ⟨w.heap.size, 6, none⟩ = some (.slice X N c)) from fun W' hb => ⟨(bk.below hb).cell 0, (bk.below hb).cell 1, (bk.below hb).cell 2, (bk.below hb).cell 6⟩)
      have z0 := y2.drew
      have s0 := HS.out _ z0
      have HA := Lib.hid (And.intro hres hacc)
      clear bk b0 hres hacc hes hhl hul
      go_wp2_with fail
      refine wp_region_noPanic ?_
      refine wp_region_held_drew (S := (fun W' => W'.cell? ⟨w.heap.size, 0, none⟩ = some (.string ⟨o.toArray⟩) ∧ W'.cell? ⟨w.heap.size, 1, none⟩ = some (.int .i64 z) ∧ W'.cell? ⟨w.heap.size, 2, none⟩ = some (.string ⟨r.toArray⟩) ∧ W'.cell? ⟨w.heap.size, 6, none⟩ = some (.slice X N c))) (by kernel_rfl) ?_ (fun hH0 => ?_)
      ·with_reducible exact s0
      refine tk 0 31 hH0 ?_
      refine tk 1 32 hH0 ?_
      refine tk 3 34 hH0 ?_
      refine tk 5 36 hH0 ?_
      refine tk 6 37 hH0 ?_
      refine tk 7 38 hH0 ?_
      refine rdy [2] ?_
      refine an 33 fun K hK => ?_
      go_simp; (
       with_reducible refine (kb _).mono ?_
       rintro e w3 ⟨rfl, b3⟩
       have z1 := z0.trans (b3.mono z0.size)
       have s1 := HS.out _ z1); go_wp2_with fail
      refine hK.out _ _ (by with_reducible exact s1) fun hH1 => ?_
      clear hK K hH0
      try simp only [pu]
      refine tk 4 35 hH1 ?_
      refine rdy [8] ?_
      refine an 39 fun K hK => ?_
      go_simp; (
       with_reducible refine (kn _).mono ?_
       rintro e w4 ⟨rfl, b4⟩
       have z2 := z1.trans (b4.mono z1.size)
       have s2 := HS.out _ z2); go_wp2_with fail
      refine hK.out _ _ (by with_reducible exact s2) fun hH2 => ?_
      clear hK K hH1
      try simp only [pu]
      refine tk 9 40 hH2 ?_
      refine tk 10 6 hH2 ?_
      refine dn ?_ _
      all_goals (refine NoPanic.normal ?_)
      obtain ⟨_, _, _, m6⟩ := s2
      have Z2 := Lib.hid z2
      have HA' := HA
      generalize hacc0 : H ++ (E ++ U) = acc0 at HA' ⊢
      clear HA f1 f2 f3 f4 g1 g2 kb kn
      go_wp2_with fail
      go_loopw [44, 6] (fun i av wr => ∃ (k : Nat) (acc : Sg.Str), k ≤ N ∧ i = .int .i64 k ∧ av = .string ⟨acc.toArray⟩ ∧ acc.length ≤ 10000 + k * 80000 ∧ ckEncL acc (L.drop k) = res ∧ Below W0.heap.size W0 wr) (fun i _ _ => N - (intOf i).toNat)
      case atStart => exact ⟨0, acc0, Nat.zero_le _, rfl, rfl, HA'.out.2, HA'.out.1, Z2.out⟩
      case round =>
       obtain ⟨k, acc, hk, rfl, rfl, ha, hf, hb⟩ := hrel
       clear HA' Z2 z2 z1 z0 m6
       by_cases hlt : k < N
       ·have hkL : k < L.length := by rw [HR.out.1]; exact hlt
        obtain ⟨b, off, rfl, c0, c1, c2, c3, ok⟩ := (HR.out.2.1.below hb).get hkL
        have hxi := HR.out.2.2.1 _ (List.getElem_mem hkL)
        rw [ckEnc_drop acc L k hkL] at hf
        obtain ⟨x, hx⟩ : ∃ x, L[k] = x := ⟨_, rfl⟩
        rw [hx] at c0 c1 c2 c3 ok hf hxi
        obtain ⟨ky, i, A, C, a, B, T, b'⟩ := x
        dsimp only at c0 c1 c2 c3 hf hxi
        have zky := bytes_size ky
        have i0 : (0 : Int) ≤ (k : Int) := Int.natCast_nonneg _
        have i1 : (k : Int) < (N : Int) := Int.ofNat_lt.2 hlt
        have KL := Lib.hid (And.intro hlt ha)
        have B1 := Lib.hid (HR.out.2.2.2.2.trans (hb.mono HR.out.2.2.2.2.size))
        have ya := (Below.refl wr.heap.size wr).alloc (Nat.le_refl _) (.cells #[.string ⟨ky.toArray⟩, .int .i64 i, .slice A C.length a, .slice B T.length b'] 64)
        have bw := Blk.new wr 64 #[.string ⟨ky.toArray⟩, .int .i64 i, .slice A C.length a, .slice B T.length b']
        obtain ⟨W1, hW1⟩ : ∃ W1, wr.alloc (.cells #[.string ⟨ky.toArray⟩, .int .i64 i, .slice A C.length a, .slice B T.length b'] 64) = W1 := ⟨_, rfl⟩
        rw [hW1] at ya bw
        have kx := encode_spec i C T A B a b' W1 hxi (ok.1.below ya) (ok.2.1.below ya) ok.2.2.1 ok.2.2.2.1 ok.2.2.2.2.1 ok.2.2.2.2.2
        unfold encE at kx
        have w1 := bw.cell 1
        have w2 := bw.cell 2
        have w3 := bw.cell 3
        have HB := Lib.hid hb
        clear hx hkL ok hxi hb
        cases hx : okB i C T with
        | false =>
          rw [hx, if_neg (by decide)] at kx
          rw [hx, if_neg (by decide)] at hf
          subst hf
          clear hx ha
          go_wp2_with fail
          refine kx.mono ?_
          rintro e w4 ⟨rfl, b4⟩
          have Y := Lib.hid (ya.trans (b4.mono ya.size))
          clear kx b4 ya bw w1 w2 w3 hW1
          go_wp2
          go_ret2
          exact ⟨rfl, B1.out.trans (Y.out.mono B1.out.size)⟩
        | true =>
          rw [hx, if_pos rfl] at kx
          rw [hx, if_pos rfl] at hf
          have hes := encS_small hx
          clear hx
          by_cases hky : ky.length ≤ 65536
          ·rw [if_pos hky] at hf
           have hky' : ¬ ((65536 : Int) < (ky.length : Int)) := by omega
           have kt := fun W' => text_spec ky (Nat.le_trans hky (by decide)) W'
           have htl : (Cd.text ky).length ≤ 65546 := by have := Cd.uns_len ky.length; unfold Cd.text; rw [List.length_append]; omega
           generalize encS i C T = E' at kx hes hf
           generalize Cd.text ky = TX at kt htl hf
           have g1 := bytes_append TX E'
           have g2 := bytes_append acc (TX ++ E')
           obtain ⟨f1, f2⟩ := sg_cat TX E' (by omega)
           obtain ⟨f3, f4⟩ := sg_cat acc (TX ++ E') (by rw [List.length_append]; omega)
           simp only [List.length_append] at f3 f4
           have hacc : (acc ++ (TX ++ E')).length ≤ 10000 + (k + 1) * 80000 := by simp only [List.length_append]; omega
           have HF := Lib.hid (And.intro hf hacc)
           clear hf hacc ha hes htl
           go_wp2_with fail
           refine kx.mono ?_
           rintro e w4 ⟨rfl, b4⟩
           have y4 := ya.trans (b4.mono ya.size)
           have v0 := (bw.below b4).cell 0
           clear kx b4 w1 w2 w3 hW1
           go_wp2_with fail
           refine (kt _).mono ?_
           rintro e w5 ⟨rfl, b5⟩
           have Y := Lib.hid (y4.trans (b5.mono y4.size))
           clear b5 kt y4 ya bw v0
           go_wp2
           go_roundw
           case rel => exact ⟨k + 1, _, Nat.succ_le_of_lt KL.out.1, by go_num, rfl, HF.out.2, HF.out.1, HB.out.trans (Y.out.mono HB.out.size)⟩
           case measure => have := KL.out.1; simp [intOf]; omega
          ·rw [if_neg hky] at hf
           subst hf
           have hky' : (65536 : Int) < (ky.length : Int) := by omega
           clear hes ha
           go_wp2_with fail
           refine kx.mono ?_
           rintro e w4 ⟨rfl, b4⟩
           have Y := Lib.hid (ya.trans (b4.mono ya.size))
           have v0 := (bw.below b4).cell 0
           clear kx b4 ya bw w1 w2 w3 hW1
           go_wp2
           go_ret2
           exact ⟨rfl, B1.out.trans (Y.out.mono B1.out.size)⟩
       ·obtain rfl : k = N := Nat.le_antisymm hk (Nat.le_of_not_lt hlt)
        rw [List.drop_eq_nil_of_le (by rw [HR.out.1]; exact Nat.le_refl _)] at hf
        subst hf
        have B1 := Lib.hid (HR.out.2.2.2.2.trans (hb.mono HR.out.2.2.2.2.size))
        clear hb
        go_wp2
        go_ret2
        exact ⟨rfl, B1.out⟩
     ·rw [if_neg hl]
      have hl' : (1024 : Int) < (N : Int) := by omega
      go_enter Tryz.func30, Tryz.ntmps30
      go_wp2_with fail
      refine ke.mono ?_
      rintro e w1 ⟨rfl, b1⟩
      have k1 := bk.below b1
      have h0 := k1.cell 0
      have h1 := k1.cell 1
      have h2 := k1.cell 2
      have y1 := b0.trans (b1.mono b0.size)
      clear ke hW0 q3 q4 q5
      go_wp2_with fail
      refine (kh _).mono ?_
      rintro e w2 ⟨rfl, b2⟩
      have k6 := (k1.below b2).cell 6
      have y2 := Lib.hid (y1.trans (b2.mono y1.size))
      clear b1 b2 h0 h1 h2 k1 bk b0 y1
      go_wp2
      go_ret2
      exact ⟨rfl, y2.out⟩
end Go.Proofs.YtjjpdnpbhdcpbaaGreat
