/-
  Checkpoints: decoding, in the program. Conditions: strings of at most 2^40 bytes.
-/
import Derived.Test.YtjjpdnpbhdcpbaaGreatQCkX
import Derived.Test.YtjjpdnpbhdcpbaaGreatQPe
namespace Go.Proofs.YtjjpdnpbhdcpbaaGreat
set_option linter.unusedVariables false
open Go.RowKit Go.Shelf
attribute [local go_sem] Oper.semAt_some
theorem info_cos : (Tryz.prog.info? 64).map (fun i => (i.zero, i.size, i.bytes)) = some (some (.agg #[.string ⟨#[]⟩, .int .i64 0, .slice none 0 0, .slice none 0 0]), 4, 72) := by kernel_rfl
def DckP (q : CkV × Int) (w : World) (e : Ending) (w' : World) : Prop :=
 ∃ V : CkV, e = .returned (.tuple #[.agg (ckA V), .int .i64 q.2]) ∧ V.strip = q.1 ∧ CkV.ok w' V ∧ V.i < 9223372036854775808 ∧ (∀ x ∈ V.L, x.i < 9223372036854775808) ∧ Below w.heap.size w w'
theorem noCk_ok (w : World) : CkV.ok w noCk := ⟨.inl rfl, .inl rfl, Nat.le_refl _, Nat.zero_le _, Nat.le_refl _, Nat.zero_le _, ⟨.inl rfl, fun x hx => by cases hx⟩, Nat.le_refl _, Nat.zero_le _⟩
theorem dck_bad (er : Int) {w w' : World} (h : Below w.heap.size w w') : DckP (noCk, er) w (.returned (.tuple #[.agg #[.string ⟨#[]⟩, .int .i64 0, .string ⟨#[]⟩, .int .i64 0, .slice none 0 0, .slice none 0 0, .slice none 0 0], .int .i64 er])) w' :=
 ⟨noCk, rfl, rfl, noCk_ok _, by decide, (fun x hx => by cases hx), h⟩
theorem count_nat (s : Sg.Str) (at_ : Nat) (e : Int) : ∃ N : Nat, (countR s at_ e 1024).1 = (N : Int) ∧ N ≤ 1024 := by
 unfold countR
 split
 ·exact ⟨0, rfl, Nat.zero_le _⟩
 ·split
  ·rename_i n next h
   unfold Cd.readCount at h
   split at h
   ·split at h
    ·rename_i hm
     injection h with h
     injection h with h1 h2
     subst h1
     exact ⟨_, rfl, by omega⟩
    ·cases h
   ·cases h
  ·exact ⟨0, rfl, Nat.zero_le _⟩
set_option maxRecDepth 20000 in
set_option maxHeartbeats 4000000 in
theorem ckdecode_spec (s : Sg.Str) (w : World) (hs : s.length ≤ 1099511627776) :
 Calls Tryz.prog 32 #[.string ⟨s.toArray⟩] w (DckP (ckDec s) w) := by
 have h0 := (St.nil w).alloc 32 #[.string ⟨#[]⟩, .int .i64 0, .string ⟨#[]⟩, .int .i64 0, .slice none 0 0, .slice none 0 0, .slice none 0 0]
 have g1 : (ckH1 s).2.1 ≤ s.length := textR_le (Nat.zero_le _)
 have g2 : (ckH2 s).2.1 ≤ s.length := uintR_le g1
 have g3 : (ckH3 s).2.1 ≤ s.length := textR_le g2
 have g4 : (ckH4 s).2.1 ≤ s.length := sgnR_le g3
 have g5 : (ckH5 s).2.1 ≤ s.length := countR_le g4
 have u4 : (ckH4 s).1.1 < 9223372036854775808 := sgnR_lt g3
 have k1 := fun W R (h : St w.heap.size w W (rrR (w.heap.size + 1) s 0 0 :: R)) => s_text h hs (Nat.zero_le _)
 have k2 := fun W R (h : St w.heap.size w W (rrR (w.heap.size + 1) s (ckH1 s).2.1 (ckH1 s).2.2 :: R)) => s_uint h hs g1
 have k3 := fun W R (h : St w.heap.size w W (rrR (w.heap.size + 1) s (ckH2 s).2.1 (ckH2 s).2.2 :: R)) => s_text h hs g2
 have k4 := fun W R (h : St w.heap.size w W (rrR (w.heap.size + 1) s (ckH3 s).2.1 (ckH3 s).2.2 :: R)) => signed_spec h hs g3
 have k5 := fun W R (h : St w.heap.size w W (rrR (w.heap.size + 1) s (ckH4 s).2.1 (ckH4 s).2.2 :: R)) => s_count 1024 h hs g4
 have hcb := count_nat s (ckH4 s).2.1 (ckH4 s).2.2
 obtain ⟨R6, hR6⟩ : ∃ R6, ckH6 s = R6 := ⟨_, rfl⟩
 have hD : ckDec s = if (ckEnc (ckH1 s).1 (ckH2 s).1 (ckH3 s).1 (ckH4 s).1.1 (ckH4 s).1.2.1 (ckH4 s).1.2.2 R6.1).2 = 0 then (if endR s R6.2.1 R6.2.2 = 0 then (ckP (ckH1 s).1 (ckH2 s).1 (ckH3 s).1 (ckH4 s).1.1 (ckH4 s).1.2.1 (ckH4 s).1.2.2 R6.1, 0) else (noCk, 9)) else (noCk, 9) := by rw [← hR6]; rfl
 have hL : ckRows s (ckH5 s).1.toNat [] (ckH5 s).2.1 (ckH5 s).2.2 = R6 := hR6
 rw [hD]
 clear hD hR6
 change _ at k1
 have e1 : textR s 0 0 = ckH1 s := rfl
 have e2 : uintR s (ckH1 s).2.1 (ckH1 s).2.2 = ckH2 s := rfl
 have e3 : textR s (ckH2 s).2.1 (ckH2 s).2.2 = ckH3 s := rfl
 have e4 : sgnR s (ckH3 s).2.1 (ckH3 s).2.2 = ckH4 s := rfl
 have e5 : countR s (ckH4 s).2.1 (ckH4 s).2.2 1024 = ckH5 s := rfl
 rw [e1] at k1
 rw [e2] at k2
 rw [e3] at k3
 rw [e4] at k4
 rw [e5] at k5 hcb
 clear e1 e2 e3 e4 e5 g1 g2 g3 g4
 generalize ckH1 s = H1 at *
 generalize ckH2 s = H2 at *
 generalize ckH3 s = H3 at *
 generalize ckH4 s = H4 at *
 generalize ckH5 s = H5 at *
 obtain ⟨o, o2, o3⟩ := H1
 obtain ⟨z, z2, z3⟩ := H2
 obtain ⟨r, r2, r3⟩ := H3
 obtain ⟨⟨i, C, T⟩, t2, t3⟩ := H4
 obtain ⟨cn, c2, c3⟩ := H5
 obtain ⟨RL, R2, R3⟩ := R6
 dsimp only at *
 obtain ⟨N, rfl, hN⟩ : ∃ N : Nat, cn = (N : Int) ∧ N ≤ 1024 := hcb
 rw [Int.toNat_natCast] at hL
 obtain ⟨F, hF⟩ : ∃ F, ckEnc o z r i C T RL = F := ⟨_, rfl⟩
 rw [hF]
 obtain ⟨E, hE⟩ : ∃ E, endR s R2 R3 = E := ⟨_, rfl⟩
 rw [hE]
 have HX := Lib.hid (And.intro hL (And.intro hF (And.intro hE (And.intro u4 (And.intro hN (And.intro hs g5))))))
 clear hL hF hE u4 hN hs g5
 generalize hres : ite (F.2 = 0) _ _ = res
 have HR := Lib.hid hres
 clear hres
 have kn := s_newReader h0 s
 go_enter Tryz.func32, Tryz.ntmps32
 go_wp2_with fail
 refine kn.mono ?_
 rintro e w1 ⟨rfl, h1⟩
 rw [World.size_alloc] at h1 ⊢
 go_wp2_with fail
 refine (k1 _ _ h1).mono ?_
 rintro e w2 ⟨rfl, h2⟩
 go_wp2_with fail
 refine (k2 _ _ h2).mono ?_
 rintro e w3 ⟨rfl, h3⟩
 go_wp2_with fail
 refine (k3 _ _ h3).mono ?_
 rintro e w4 ⟨rfl, h4⟩
 obtain ⟨p, hp⟩ : ∃ p, w4.heap.size = p := ⟨_, rfl⟩
 have h5 := h4.alloc 32 #[.string ⟨o.toArray⟩, .int .i64 z, .string ⟨r.toArray⟩, .int .i64 0, .slice none 0 0, .slice none 0 0, .slice none 0 0]
 rw [hp] at h5
 have h6 := h5.swap
 clear kn k1 k2 k3 h0 h1 h2 h3 h4 h5
 go_wp2_with fail
 with_reducible refine (k4 _ _ h6).mono ?_
 rintro e w5 ⟨v1, v2, rfl, h7⟩
 obtain ⟨A2, n2, rfl, q3, q4⟩ := own_form h7.own
 obtain ⟨A1, n1, rfl, q1, q2⟩ := own_form h7.tail.tail.own
 have h8 := h7.pk [3, 1, 0, 2, 4]
 have gc3 := h8.blk.cell 3
 have gc4 := h8.blk.cell 4
 have gc5 := h8.blk.cell 5
 have gf3 := h8.blk.frozen 3
 have gf4 := h8.blk.frozen 4
 have gf5 := h8.blk.frozen 5
 have h9 := ((((h8.set_ 3 (.int .i64 i)).set_ 4 (.slice A1 C.length n1)).set_ 5 (.slice A2 T.length n2))).swap
 clear k4 h6 h7 h8 hp
 go_wp2_with fail
 with_reducible refine (k5 _ _ h9).mono ?_
 rintro e w6 ⟨rfl, h10⟩
 have ha : St w.heap.size w w6 [cellsR p 32 #[.string ⟨o.toArray⟩, .int .i64 z, .string ⟨r.toArray⟩, .int .i64 i, .slice A1 C.length n1, .slice A2 T.length n2, .slice none 0 0], ownR 64 4 (.slice none 0 0) 0 [], rrR (w.heap.size + 1) s c2 c3, ownR 9 1 (.slice A2 T.length n2) T.length (strs T), ownR 9 1 (.slice A1 C.length n1) C.length (strs C), cellsR w.heap.size 32 #[.string ⟨#[]⟩, .int .i64 0, .string ⟨#[]⟩, .int .i64 0, .slice none 0 0, .slice none 0 0, .slice none 0 0], rowsG []] :=
  ((h10.new_own (e := 64) (size := 4) (v := .slice none 0 0) (n := 0) (xs := []) (Below.refl _ _) (World.ownsRow_nil _ _ _ _)).rows0).pk [3, 1, 2, 4, 5, 6, 0]
 have HA := Lib.hid ha
 have QQ := Lib.hid (And.intro q1 (And.intro q2 (And.intro q3 q4)))
 clear k5 h9 h10 ha q1 q2 q3 q4
 go_wp2_with fail
 go_loopw [24] (fun k wr => ∃ (j : Nat) (L : List SgRow) (X : Option Addr) (cp at_ : Nat) (e : Int), j ≤ N ∧ k = .int .i64 j ∧ L.length ≤ j ∧ L.length ≤ cp ∧ cp ≤ maxLen ∧ at_ ≤ s.length ∧ ckRows s (N - j) (L.map stripR) at_ e = (RL, R2, R3) ∧ (∀ x ∈ L, RowCap x) ∧ (∀ x ∈ L, x.i < 9223372036854775808) ∧ St w.heap.size w wr [cellsR p 32 #[.string ⟨o.toArray⟩, .int .i64 z, .string ⟨r.toArray⟩, .int .i64 i, .slice A1 C.length n1, .slice A2 T.length n2, .slice X L.length cp], ownR 64 4 (.slice X L.length cp) L.length (L.flatMap rowC), rrR (w.heap.size + 1) s at_ e, ownR 9 1 (.slice A2 T.length n2) T.length (strs T), ownR 9 1 (.slice A1 C.length n1) C.length (strs C), cellsR w.heap.size 32 #[.string ⟨#[]⟩, .int .i64 0, .string ⟨#[]⟩, .int .i64 0, .slice none 0 0, .slice none 0 0, .slice none 0 0], rowsG L]) (fun k _ => N - (intOf k).toNat)
 case atStart => exact ⟨0, [], none, 0, c2, c3, Nat.zero_le _, rfl, Nat.le_refl _, Nat.le_refl _, Nat.zero_le _, HX.out.2.2.2.2.2.2, HX.out.1, (fun x hx => by cases hx), (fun x hx => by cases hx), HA.out⟩
 case round =>
  obtain ⟨j, L, X, cp, at_, e, hj, rfl, hLj, hcp1, hcp2, hat, hf, hcap, hi63, h⟩ := hrel
  clear HA
  have j0 : (0 : Int) ≤ (j : Int) := Int.natCast_nonneg _
  by_cases hlt : j < N
  ·have j1 : (j : Int) < (N : Int) := Int.ofNat_lt.2 hlt
   have ke := fun W (hb : St w.heap.size w W (rrR (w.heap.size + 1) s at_ e :: [])) => error_spec (w.heap.size + 1) s at_ e W hb.blk
   by_cases he : e = 0
   ·subst he
    have kt := fun W R (h : St w.heap.size w W (rrR (w.heap.size + 1) s at_ 0 :: R)) => s_text h HX.out.2.2.2.2.2.1 hat
    have hta : (textR s at_ 0).2.1 ≤ s.length := textR_le hat
    have ksg := fun W R (h : St w.heap.size w W (rrR (w.heap.size + 1) s (textR s at_ 0).2.1 (textR s at_ 0).2.2 :: R)) => signed_spec h HX.out.2.2.2.2.2.1 hta
    rw [show N - j = (N - (j + 1)) + 1 by omega] at hf
    unfold ckRows at hf
    rw [if_pos rfl] at hf
    have hsl : (sgnR s (textR s at_ 0).2.1 (textR s at_ 0).2.2).2.1 ≤ s.length := sgnR_le hta
    have hsi : (sgnR s (textR s at_ 0).2.1 (textR s at_ 0).2.2).1.1 < 9223372036854775808 := sgnR_lt hta
    generalize textR s at_ 0 = tx at *
    obtain ⟨ky, tx2, tx3⟩ := tx
    dsimp only at *
    generalize sgnR s tx2 tx3 = sg at *
    obtain ⟨⟨xi, xC, xT⟩, sg2, sg3⟩ := sg
    dsimp only at *
    have hb1 : L.length + 1 ≤ maxLen := by have := HX.out.2.2.2.2.1; unfold maxLen; omega
    have hb2 : (L.length + 1) * 72 ≤ 140737488355328 := by have := HX.out.2.2.2.2.1; omega
    have j63 : (j : Int) + 1 ≤ 9223372036854775807 := by have := HX.out.2.2.2.2.1; omega
    have KL := Lib.hid (And.intro hlt (And.intro hLj (And.intro hsl (And.intro hf (And.intro hcap (And.intro hi63 (And.intro hsi (And.intro hb1 hb2))))))))
    have H := Lib.hid h
    clear hj hLj hcp1 hcp2 hat hf hcap hi63 h hlt hta hsl hsi hb1 hb2
    go_wp2_with fail
    refine (ke _ (H.out.pk [2])).mono ?_
    rintro e' w7 ⟨rfl, rfl⟩
    clear ke
    go_wp2_with fail
    refine (kt _ _ (H.out.pk [2, 0, 1, 3, 4, 5, 6])).mono ?_
    rintro e' w8 ⟨rfl, h8⟩
    have l0 := h8.tail.blk.cell 6
    have d0 := h8.drew
    clear kt H
    go_wp2_with fail
    refine wp_region_noPanic ?_
    refine wp_region_held_drew (S := (fun _ => True)) (by kernel_rfl) ?_ (fun hH0 => ?_)
    ·(trivial)
    refine tk 0 31 hH0 ?_
    refine tk 2 33 hH0 ?_
    refine tk 3 34 hH0 ?_
    refine rdy [1, 4] ?_
    refine ad 32 (fun K hK => ?_) ?_
    go_simp
    refine hK.out _ _ ?_ (fun hH1 => ?_)
    ·(trivial)
    clear hK K hH0
    try simp only [pu]
    refine rdy [4] ?_
    refine an 35 fun K hK => ?_
    go_simp; (first
     | ((with_reducible refine (ksg _ _ d0).mono ?_)
        rintro e' w9 ⟨va, vb, rfl, h9⟩
        obtain ⟨B2, m2, rfl, y3, y4⟩ := own_form h9.own
        obtain ⟨B1, m1, rfl, y1, y2⟩ := own_form h9.tail.tail.own
        have l1 := h9.tail.tail.tail.blk.cell 6
        have f1 := h9.tail.tail.tail.blk.frozen 6
        have lt1 := h9.tail.tail.tail.blk.lt
        have h9' := h9.pk [4, 3, 1, 0, 2, 5, 6, 7, 8])
     | (refine stepR 30 (te := 64) #[.string ⟨ky.toArray⟩, .int .i64 xi, .slice B1 xC.length m1, .slice B2 xT.length m2] h9' Tryz.underlying30 info_cos rfl (by decide) _ _ (by rfl) (by rfl) (by rfl) (by rfl) rfl (by intro u hu; simp at hu; rcases hu with rfl | rfl | rfl | rfl <;> rfl) KL.out.2.2.2.2.2.2.2.1 KL.out.2.2.2.2.2.2.2.2 ?_
        intro gg cap w10 h10
        have l2 := h10.tail.blk.cell 6
        have f2 := h10.tail.blk.frozen 6)
     | fail); go_wp2_with fail
    refine hK.out _ _ ?_ (fun hH2 => ?_)
    ·(trivial)
    clear hK K hH1
    try simp only [pu]
    refine tk 5 36 hH2 ?_
    refine rdy [6] ?_
    refine an 37 fun K hK => ?_
    go_simp
    refine hK.out _ _ ?_ (fun hH3 => ?_)
    ·(trivial)
    clear hK K hH2
    try simp only [pu]
    refine rdy [7] ?_
    refine an 38 fun K hK => ?_
    (first
      | ((with_reducible refine (ksg _ _ d0).mono ?_)
         rintro e' w9 ⟨va, vb, rfl, h9⟩
         obtain ⟨B2, m2, rfl, y3, y4⟩ := own_form h9.own
         obtain ⟨B1, m1, rfl, y1, y2⟩ := own_form h9.tail.tail.own
         have l1 := h9.tail.tail.tail.blk.cell 6
         have f1 := h9.tail.tail.tail.blk.frozen 6
         have lt1 := h9.tail.tail.tail.blk.lt
         have h9' := h9.pk [4, 3, 1, 0, 2, 5, 6, 7, 8])
      | (refine stepR 30 (te := 64) #[.string ⟨ky.toArray⟩, .int .i64 xi, .slice B1 xC.length m1, .slice B2 xT.length m2] h9' Tryz.underlying30 info_cos rfl (by decide) _ _ (by rfl) (by rfl) (by rfl) (by rfl) rfl (by intro u hu; simp at hu; rcases hu with rfl | rfl | rfl | rfl <;> rfl) KL.out.2.2.2.2.2.2.2.1 KL.out.2.2.2.2.2.2.2.2 ?_
         intro gg cap w10 h10
         have l2 := h10.tail.blk.cell 6
         have f2 := h10.tail.blk.frozen 6)
      | fail)
    refine hK.out _ _ ?_ (fun hH4 => ?_)
    ·(trivial)
    clear hK K hH3
    try simp only [pu]
    refine tk 8 39 hH4 ?_
    refine rdy [9] ?_
    refine az fun K hK => ?_
    go_simp
    refine hK.out _ _ ?_ (fun hH5 => ?_)
    ·(trivial)
    clear hK K hH4
    try simp only [pu]
    refine dn ?_ _
    rotate_left 1
    refine an 35 fun K hK => ?_
    go_simp; (first
     | ((with_reducible refine (ksg _ _ d0).mono ?_)
        rintro e' w9 ⟨va, vb, rfl, h9⟩
        obtain ⟨B2, m2, rfl, y3, y4⟩ := own_form h9.own
        obtain ⟨B1, m1, rfl, y1, y2⟩ := own_form h9.tail.tail.own
        have l1 := h9.tail.tail.tail.blk.cell 6
        have f1 := h9.tail.tail.tail.blk.frozen 6
        have lt1 := h9.tail.tail.tail.blk.lt
        have h9' := h9.pk [4, 3, 1, 0, 2, 5, 6, 7, 8])
     | (refine stepR 30 (te := 64) #[.string ⟨ky.toArray⟩, .int .i64 xi, .slice B1 xC.length m1, .slice B2 xT.length m2] h9' Tryz.underlying30 info_cos rfl (by decide) _ _ (by rfl) (by rfl) (by rfl) (by rfl) rfl (by intro u hu; simp at hu; rcases hu with rfl | rfl | rfl | rfl <;> rfl) KL.out.2.2.2.2.2.2.2.1 KL.out.2.2.2.2.2.2.2.2 ?_
        intro gg cap w10 h10
        have l2 := h10.tail.blk.cell 6
        have f2 := h10.tail.blk.frozen 6)
     | fail); go_wp2_with fail
    refine hK.out _ _ ?_ (fun hH6 => ?_)
    ·(trivial)
    clear hK K hH0
    try simp only [pu]
    refine tk 5 36 hH6 ?_
    refine rdy [1, 6] ?_
    refine ad 32 (fun K hK => ?_) ?_
    go_simp
    refine hK.out _ _ ?_ (fun hH7 => ?_)
    ·(trivial)
    clear hK K hH6
    try simp only [pu]
    refine rdy [6] ?_
    refine an 37 fun K hK => ?_
    go_simp
    refine hK.out _ _ ?_ (fun hH8 => ?_)
    ·(trivial)
    clear hK K hH7
    try simp only [pu]
    refine rdy [7] ?_
    refine an 38 fun K hK => ?_
    (first
      | ((with_reducible refine (ksg _ _ d0).mono ?_)
         rintro e' w9 ⟨va, vb, rfl, h9⟩
         obtain ⟨B2, m2, rfl, y3, y4⟩ := own_form h9.own
         obtain ⟨B1, m1, rfl, y1, y2⟩ := own_form h9.tail.tail.own
         have l1 := h9.tail.tail.tail.blk.cell 6
         have f1 := h9.tail.tail.tail.blk.frozen 6
         have lt1 := h9.tail.tail.tail.blk.lt
         have h9' := h9.pk [4, 3, 1, 0, 2, 5, 6, 7, 8])
      | (refine stepR 30 (te := 64) #[.string ⟨ky.toArray⟩, .int .i64 xi, .slice B1 xC.length m1, .slice B2 xT.length m2] h9' Tryz.underlying30 info_cos rfl (by decide) _ _ (by rfl) (by rfl) (by rfl) (by rfl) rfl (by intro u hu; simp at hu; rcases hu with rfl | rfl | rfl | rfl <;> rfl) KL.out.2.2.2.2.2.2.2.1 KL.out.2.2.2.2.2.2.2.2 ?_
         intro gg cap w10 h10
         have l2 := h10.tail.blk.cell 6
         have f2 := h10.tail.blk.frozen 6)
      | fail)
    refine hK.out _ _ ?_ (fun hH9 => ?_)
    ·(trivial)
    clear hK K hH8
    try simp only [pu]
    refine tk 8 39 hH9 ?_
    refine rdy [9] ?_
    refine az fun K hK => ?_
    go_simp
    refine hK.out _ _ ?_ (fun hH10 => ?_)
    ·(trivial)
    clear hK K hH9
    try simp only [pu]
    refine dn ?_ _
    rotate_left 1
    refine an 37 fun K hK => ?_
    go_simp
    refine hK.out _ _ ?_ (fun hH11 => ?_)
    ·(trivial)
    clear hK K hH6
    try simp only [pu]
    refine rdy [1] ?_
    refine an 32 fun K hK => ?_
    go_simp
    refine hK.out _ _ ?_ (fun hH12 => ?_)
    ·(trivial)
    clear hK K hH11
    try simp only [pu]
    refine rdy [7] ?_
    refine an 38 fun K hK => ?_
    (first
      | ((with_reducible refine (ksg _ _ d0).mono ?_)
         rintro e' w9 ⟨va, vb, rfl, h9⟩
         obtain ⟨B2, m2, rfl, y3, y4⟩ := own_form h9.own
         obtain ⟨B1, m1, rfl, y1, y2⟩ := own_form h9.tail.tail.own
         have l1 := h9.tail.tail.tail.blk.cell 6
         have f1 := h9.tail.tail.tail.blk.frozen 6
         have lt1 := h9.tail.tail.tail.blk.lt
         have h9' := h9.pk [4, 3, 1, 0, 2, 5, 6, 7, 8])
      | (refine stepR 30 (te := 64) #[.string ⟨ky.toArray⟩, .int .i64 xi, .slice B1 xC.length m1, .slice B2 xT.length m2] h9' Tryz.underlying30 info_cos rfl (by decide) _ _ (by rfl) (by rfl) (by rfl) (by rfl) rfl (by intro u hu; simp at hu; rcases hu with rfl | rfl | rfl | rfl <;> rfl) KL.out.2.2.2.2.2.2.2.1 KL.out.2.2.2.2.2.2.2.2 ?_
         intro gg cap w10 h10
         have l2 := h10.tail.blk.cell 6
         have f2 := h10.tail.blk.frozen 6)
      | fail)
    refine hK.out _ _ ?_ (fun hH13 => ?_)
    ·(trivial)
    clear hK K hH12
    try simp only [pu]
    refine tk 8 39 hH13 ?_
    refine rdy [9] ?_
    refine az fun K hK => ?_
    go_simp
    refine hK.out _ _ ?_ (fun hH14 => ?_)
    ·(trivial)
    clear hK K hH13
    try simp only [pu]
    refine dn ?_ _
    all_goals (refine NoPanic.normal ?_)
    all_goals
     obtain ⟨A', c', ec, cb1, cb2⟩ := own_form h10.own
     injection ec with ec1 ec2 ec3
     subst ec1 ec3
     clear ec2
     have h11 := (((h10.pk [1, 0, 2, 5, 6, 7, 8, 4, 3]).set_ 6 (.slice (some ⟨gg, 0, none⟩) (L.length + 1) cap)).pk [6, 7, 8, 0, 1, 2, 3, 4, 5])
     have h12 := Lib.hid ((St.rows1 ⟨ky, xi, B1, xC, m1, B2, xT, m2⟩ h11).pk [1, 2, 3, 4, 5, 6, 0])
     have YY := Lib.hid (And.intro y1 (And.intro y2 (And.intro y3 (And.intro y4 (And.intro cb1 cb2)))))
     clear h10 h11 y1 y2 y3 y4 cb1 cb2 h9 h9' h8 d0
     go_wp2
     go_roundw
     case rel =>
      obtain ⟨klt, kLj, ksl, kf, kcap, k63, kxi, _, _⟩ := KL.out
      obtain ⟨z1, z2, z3, z4, z5, z6⟩ := YY.out
      have hl : (L ++ [(⟨ky, xi, B1, xC, m1, B2, xT, m2⟩ : SgRow)]).length = L.length + 1 := by simp
      refine ⟨j + 1, L ++ [⟨ky, xi, B1, xC, m1, B2, xT, m2⟩], some ⟨gg, 0, none⟩, cap, sg2, sg3, klt, by go_num, by rw [hl]; omega, by rw [hl]; exact z5, z6, ksl, ?_, ?_, ?_, ?_⟩
      ·rw [List.map_append]
       exact kf
      ·intro y hy
       rcases List.mem_append.1 hy with hy | hy
       ·exact kcap y hy
       ·rw [List.mem_singleton.1 hy]
        exact ⟨z1, z2, z3, z4⟩
      ·intro y hy
       rcases List.mem_append.1 hy with hy | hy
       ·exact k63 y hy
       ·rw [List.mem_singleton.1 hy]
        exact kxi
      ·rw [hl, flatC_snoc]
       exact h12.out
     case measure => have := KL.out.1; simp [intOf]; omega
   ·have hx : L.map stripR = RL ∧ at_ = R2 ∧ e = R3 := by
     rw [show N - j = (N - (j + 1)) + 1 by omega] at hf
     unfold ckRows at hf
     rw [if_neg he] at hf
     simp only [Prod.mk.injEq] at hf
     exact hf
    obtain ⟨rfl, rfl, rfl⟩ := hx
    clear hf
    have he1 : (e == 0) = false := beq_eq_false_iff_ne.2 he
    have he2 : (e != 0) = true := by rw [bne, he1]; rfl
    have hFF := HX.out.2.1
    have hEE := HX.out.2.2.1
    rw [ckEnc_strip] at hFF
    have hRR := h.pk [1, 6]
    have kE := ckencode_spec o z r i A1 A2 C T n1 n2 X L cp wr (hRR.rowsR hcap) hi63 HX.out.2.2.2.1 (Rd.of_own h.tail.tail.tail.tail.own) (Rd.of_own h.tail.tail.tail.own) QQ.out.1 QQ.out.2.1 QQ.out.2.2.1 QQ.out.2.2.2
    rw [hFF] at kE
    obtain ⟨F1, F2⟩ := F
    dsimp only at kE
    have ke2 := fun W (hb : Rr W (w.heap.size + 1) s at_ e) => end_spec (w.heap.size + 1) s at_ e W hb
    rw [hEE] at ke2
    have hres := HR.out
    dsimp only at hres
    clear hFF hEE hRR
    have KC := Lib.hid (And.intro hcap (And.intro hi63 (And.intro hcp1 hcp2)))
    have pc0 := h.blk.cell 0
    have pc1 := h.blk.cell 1
    have pc2 := h.blk.cell 2
    have pc3 := h.blk.cell 3
    have pc4 := h.blk.cell 4
    have pc5 := h.blk.cell 5
    have pc6 := h.blk.cell 6
    have H := Lib.hid h
    clear h hcap hi63 hcp1 hcp2 hat hLj hj
    go_wp2_with fail
    refine (ke _ (H.out.pk [2])).mono ?_
    rintro e' w7 ⟨rfl, rfl⟩
    clear ke
    go_wp2_with fail
    refine kE.mono ?_
    rintro e' w8 ⟨rfl, b8⟩
    have h8 := H.out.under b8
    clear kE b8 pc0 pc1 pc2 pc3 pc4 pc5 pc6
    by_cases hF0 : F2 = 0
    ·subst hF0
     rw [if_pos rfl] at hres
     go_wp2_with fail
     refine (ke2 _ h8.tail.tail.blk).mono ?_
     rintro e' w9 ⟨rfl, kk, rfl⟩
     have h9 := h8.drewN kk
     obtain ⟨w9, hw9⟩ : ∃ w9, w8.drewN kk = w9 := ⟨_, rfl⟩
     rw [hw9] at h9 ⊢
     clear ke2 h8 hw9
     have rc0 := h9.tail.tail.tail.tail.tail.blk.cell 0
     have rc1 := h9.tail.tail.tail.tail.tail.blk.cell 1
     have rc2 := h9.tail.tail.tail.tail.tail.blk.cell 2
     have rc3 := h9.tail.tail.tail.tail.tail.blk.cell 3
     have rc4 := h9.tail.tail.tail.tail.tail.blk.cell 4
     have rc5 := h9.tail.tail.tail.tail.tail.blk.cell 5
     have rc6 := h9.tail.tail.tail.tail.tail.blk.cell 6
     have rf0 := h9.tail.tail.tail.tail.tail.blk.frozen 0
     have rf1 := h9.tail.tail.tail.tail.tail.blk.frozen 1
     have rf2 := h9.tail.tail.tail.tail.tail.blk.frozen 2
     have rf3 := h9.tail.tail.tail.tail.tail.blk.frozen 3
     have rf4 := h9.tail.tail.tail.tail.tail.blk.frozen 4
     have rf5 := h9.tail.tail.tail.tail.tail.blk.frozen 5
     have rf6 := h9.tail.tail.tail.tail.tail.blk.frozen 6
     by_cases hE0 : E = 0
     ·subst hE0
      rw [if_pos rfl] at hres
      subst hres
      have pc0 := h9.blk.cell 0
      have pc1 := h9.blk.cell 1
      have pc2 := h9.blk.cell 2
      have pc3 := h9.blk.cell 3
      have pc4 := h9.blk.cell 4
      have pc5 := h9.blk.cell 5
      have pc6 := h9.blk.cell 6
      have YE := Lib.hid (((((((((h9.front 5 (by simp)).set_ 0 (.string ⟨o.toArray⟩)).set_ 1 (.int .i64 z)).set_ 2 (.string ⟨r.toArray⟩)).set_ 3 (.int .i64 i)).set_ 4 (.slice A1 C.length n1)).set_ 5 (.slice A2 T.length n2)).set_ 6 (.slice X L.length cp)))
      clear h9
      go_wp2
      refine bodyPost_ret (results_ct rfl _ _ _ _ _ _ _ rfl YE.out.blk Tryz.underlying32 rfl size_ck) rfl ?_
      exact ⟨⟨o, z, r, i, A1, C, n1, A2, T, n2, X, L, cp⟩, rfl, rfl, ⟨Rd.of_own YE.out.tail.tail.tail.tail.tail.own, Rd.of_own YE.out.tail.tail.tail.tail.own, QQ.out.1, QQ.out.2.1, QQ.out.2.2.1, QQ.out.2.2.2, (YE.out.pk [2, 6]).rowsR KC.out.1, KC.out.2.2.1, KC.out.2.2.2⟩, HX.out.2.2.2.1, KC.out.2.1, YE.out.below⟩
     ·rw [if_neg hE0] at hres
      subst hres
      have hE1 : (E == 0) = false := beq_eq_false_iff_ne.2 hE0
      have hE2 : (E != 0) = true := by rw [bne, hE1]; rfl
      have YE := Lib.hid (((((((((h9.front 5 (by simp)).set_ 0 (.string ⟨#[]⟩)).set_ 1 (.int .i64 0)).set_ 2 (.string ⟨#[]⟩)).set_ 3 (.int .i64 0)).set_ 4 (.slice none 0 0)).set_ 5 (.slice none 0 0)).set_ 6 (.slice none 0 0)))
      clear h9
      go_wp2
      refine bodyPost_ret (results_ct rfl _ _ _ _ _ _ _ rfl YE.out.blk Tryz.underlying32 rfl size_ck) rfl ?_
      exact dck_bad _ YE.out.below
    ·rw [if_neg hF0] at hres
     subst hres
     have hF1 : (F2 == 0) = false := beq_eq_false_iff_ne.2 hF0
     have hF2 : (F2 != 0) = true := by rw [bne, hF1]; rfl
     have rc0 := h8.tail.tail.tail.tail.tail.blk.cell 0
     have rc1 := h8.tail.tail.tail.tail.tail.blk.cell 1
     have rc2 := h8.tail.tail.tail.tail.tail.blk.cell 2
     have rc3 := h8.tail.tail.tail.tail.tail.blk.cell 3
     have rc4 := h8.tail.tail.tail.tail.tail.blk.cell 4
     have rc5 := h8.tail.tail.tail.tail.tail.blk.cell 5
     have rc6 := h8.tail.tail.tail.tail.tail.blk.cell 6
     have rf0 := h8.tail.tail.tail.tail.tail.blk.frozen 0
     have rf1 := h8.tail.tail.tail.tail.tail.blk.frozen 1
     have rf2 := h8.tail.tail.tail.tail.tail.blk.frozen 2
     have rf3 := h8.tail.tail.tail.tail.tail.blk.frozen 3
     have rf4 := h8.tail.tail.tail.tail.tail.blk.frozen 4
     have rf5 := h8.tail.tail.tail.tail.tail.blk.frozen 5
     have rf6 := h8.tail.tail.tail.tail.tail.blk.frozen 6
     have YE := Lib.hid (((((((((h8.front 5 (by simp)).set_ 0 (.string ⟨#[]⟩)).set_ 1 (.int .i64 0)).set_ 2 (.string ⟨#[]⟩)).set_ 3 (.int .i64 0)).set_ 4 (.slice none 0 0)).set_ 5 (.slice none 0 0)).set_ 6 (.slice none 0 0)))
     clear h8 ke2
     go_wp2
     refine bodyPost_ret (results_ct rfl _ _ _ _ _ _ _ rfl YE.out.blk Tryz.underlying32 rfl size_ck) rfl ?_
     exact dck_bad _ YE.out.below
  ·obtain rfl : N = j := Nat.le_antisymm (Nat.le_of_not_lt hlt) hj
   have hx : L.map stripR = RL ∧ at_ = R2 ∧ e = R3 := by
    rw [Nat.sub_self] at hf
    unfold ckRows at hf
    simp only [Prod.mk.injEq] at hf
    exact hf
   obtain ⟨rfl, rfl, rfl⟩ := hx
   clear hf hlt
   have hFF := HX.out.2.1
   have hEE := HX.out.2.2.1
   rw [ckEnc_strip] at hFF
   have hRR := h.pk [1, 6]
   have kE := ckencode_spec o z r i A1 A2 C T n1 n2 X L cp wr (hRR.rowsR hcap) hi63 HX.out.2.2.2.1 (Rd.of_own h.tail.tail.tail.tail.own) (Rd.of_own h.tail.tail.tail.own) QQ.out.1 QQ.out.2.1 QQ.out.2.2.1 QQ.out.2.2.2
   rw [hFF] at kE
   obtain ⟨F1, F2⟩ := F
   dsimp only at kE
   have ke2 := fun W (hb : Rr W (w.heap.size + 1) s at_ e) => end_spec (w.heap.size + 1) s at_ e W hb
   rw [hEE] at ke2
   have hres := HR.out
   dsimp only at hres
   clear hFF hEE hRR
   have KC := Lib.hid (And.intro hcap (And.intro hi63 (And.intro hcp1 hcp2)))
   have pc0 := h.blk.cell 0
   have pc1 := h.blk.cell 1
   have pc2 := h.blk.cell 2
   have pc3 := h.blk.cell 3
   have pc4 := h.blk.cell 4
   have pc5 := h.blk.cell 5
   have pc6 := h.blk.cell 6
   have H := Lib.hid h
   clear h hcap hi63 hcp1 hcp2 hat hLj hj
   go_wp2_with fail
   refine kE.mono ?_
   rintro e' w8 ⟨rfl, b8⟩
   have h8 := H.out.under b8
   clear kE b8 pc0 pc1 pc2 pc3 pc4 pc5 pc6
   by_cases hF0 : F2 = 0
   ·subst hF0
    rw [if_pos rfl] at hres
    go_wp2_with fail
    refine (ke2 _ h8.tail.tail.blk).mono ?_
    rintro e' w9 ⟨rfl, kk, rfl⟩
    have h9 := h8.drewN kk
    obtain ⟨w9, hw9⟩ : ∃ w9, w8.drewN kk = w9 := ⟨_, rfl⟩
    rw [hw9] at h9 ⊢
    clear ke2 h8 hw9
    have rc0 := h9.tail.tail.tail.tail.tail.blk.cell 0
    have rc1 := h9.tail.tail.tail.tail.tail.blk.cell 1
    have rc2 := h9.tail.tail.tail.tail.tail.blk.cell 2
    have rc3 := h9.tail.tail.tail.tail.tail.blk.cell 3
    have rc4 := h9.tail.tail.tail.tail.tail.blk.cell 4
    have rc5 := h9.tail.tail.tail.tail.tail.blk.cell 5
    have rc6 := h9.tail.tail.tail.tail.tail.blk.cell 6
    have rf0 := h9.tail.tail.tail.tail.tail.blk.frozen 0
    have rf1 := h9.tail.tail.tail.tail.tail.blk.frozen 1
    have rf2 := h9.tail.tail.tail.tail.tail.blk.frozen 2
    have rf3 := h9.tail.tail.tail.tail.tail.blk.frozen 3
    have rf4 := h9.tail.tail.tail.tail.tail.blk.frozen 4
    have rf5 := h9.tail.tail.tail.tail.tail.blk.frozen 5
    have rf6 := h9.tail.tail.tail.tail.tail.blk.frozen 6
    by_cases hE0 : E = 0
    ·subst hE0
     rw [if_pos rfl] at hres
     subst hres
     have pc0 := h9.blk.cell 0
     have pc1 := h9.blk.cell 1
     have pc2 := h9.blk.cell 2
     have pc3 := h9.blk.cell 3
     have pc4 := h9.blk.cell 4
     have pc5 := h9.blk.cell 5
     have pc6 := h9.blk.cell 6
     have YE := Lib.hid (((((((((h9.front 5 (by simp)).set_ 0 (.string ⟨o.toArray⟩)).set_ 1 (.int .i64 z)).set_ 2 (.string ⟨r.toArray⟩)).set_ 3 (.int .i64 i)).set_ 4 (.slice A1 C.length n1)).set_ 5 (.slice A2 T.length n2)).set_ 6 (.slice X L.length cp)))
     clear h9
     go_wp2
     refine bodyPost_ret (results_ct rfl _ _ _ _ _ _ _ rfl YE.out.blk Tryz.underlying32 rfl size_ck) rfl ?_
     exact ⟨⟨o, z, r, i, A1, C, n1, A2, T, n2, X, L, cp⟩, rfl, rfl, ⟨Rd.of_own YE.out.tail.tail.tail.tail.tail.own, Rd.of_own YE.out.tail.tail.tail.tail.own, QQ.out.1, QQ.out.2.1, QQ.out.2.2.1, QQ.out.2.2.2, (YE.out.pk [2, 6]).rowsR KC.out.1, KC.out.2.2.1, KC.out.2.2.2⟩, HX.out.2.2.2.1, KC.out.2.1, YE.out.below⟩
    ·rw [if_neg hE0] at hres
     subst hres
     have hE1 : (E == 0) = false := beq_eq_false_iff_ne.2 hE0
     have hE2 : (E != 0) = true := by rw [bne, hE1]; rfl
     have YE := Lib.hid (((((((((h9.front 5 (by simp)).set_ 0 (.string ⟨#[]⟩)).set_ 1 (.int .i64 0)).set_ 2 (.string ⟨#[]⟩)).set_ 3 (.int .i64 0)).set_ 4 (.slice none 0 0)).set_ 5 (.slice none 0 0)).set_ 6 (.slice none 0 0)))
     clear h9
     go_wp2
     refine bodyPost_ret (results_ct rfl _ _ _ _ _ _ _ rfl YE.out.blk Tryz.underlying32 rfl size_ck) rfl ?_
     exact dck_bad _ YE.out.below
   ·rw [if_neg hF0] at hres
    subst hres
    have hF1 : (F2 == 0) = false := beq_eq_false_iff_ne.2 hF0
    have hF2 : (F2 != 0) = true := by rw [bne, hF1]; rfl
    have rc0 := h8.tail.tail.tail.tail.tail.blk.cell 0
    have rc1 := h8.tail.tail.tail.tail.tail.blk.cell 1
    have rc2 := h8.tail.tail.tail.tail.tail.blk.cell 2
    have rc3 := h8.tail.tail.tail.tail.tail.blk.cell 3
    have rc4 := h8.tail.tail.tail.tail.tail.blk.cell 4
    have rc5 := h8.tail.tail.tail.tail.tail.blk.cell 5
    have rc6 := h8.tail.tail.tail.tail.tail.blk.cell 6
    have rf0 := h8.tail.tail.tail.tail.tail.blk.frozen 0
    have rf1 := h8.tail.tail.tail.tail.tail.blk.frozen 1
    have rf2 := h8.tail.tail.tail.tail.tail.blk.frozen 2
    have rf3 := h8.tail.tail.tail.tail.tail.blk.frozen 3
    have rf4 := h8.tail.tail.tail.tail.tail.blk.frozen 4
    have rf5 := h8.tail.tail.tail.tail.tail.blk.frozen 5
    have rf6 := h8.tail.tail.tail.tail.tail.blk.frozen 6
    have YE := Lib.hid (((((((((h8.front 5 (by simp)).set_ 0 (.string ⟨#[]⟩)).set_ 1 (.int .i64 0)).set_ 2 (.string ⟨#[]⟩)).set_ 3 (.int .i64 0)).set_ 4 (.slice none 0 0)).set_ 5 (.slice none 0 0)).set_ 6 (.slice none 0 0)))
    clear h8 ke2
    go_wp2
    refine bodyPost_ret (results_ct rfl _ _ _ _ _ _ _ rfl YE.out.blk Tryz.underlying32 rfl size_ck) rfl ?_
    exact dck_bad _ YE.out.below
end Go.Proofs.YtjjpdnpbhdcpbaaGreat
