/- Lemmas and contracts on what the walks need, several small texts in one. Conditions: as each theorem states. -/
import Derived.Test.YtjjpdnpbhdcpbaaGreatQCkL
import Derived.Test.YtjjpdnpbhdcpbaaGreatQPc
namespace Go.Proofs.YtjjpdnpbhdcpbaaGreat
set_option linter.unusedVariables false
open Go.RowKit Go.Shelf
attribute [local go_sem] Oper.semAt_some
section
variable {lo : Nat} {w0 w : World} {Rs : List Res} {r at_ : Nat} {s : Sg.Str} {e : Int}
theorem s_text (h : St lo w0 w (rrR r s at_ e :: Rs)) (hs : s.length ≤ 1099511627776) (ha : at_ ≤ s.length) : Calls Tryz.prog 74 #[.pointer (some ⟨r, 0, none⟩)] w fun e' w' => e' = .returned (.string ⟨(textR s at_ e).1.toArray⟩) ∧ St lo w0 w' (rrR r s (textR s at_ e).2.1 (textR s at_ e).2.2 :: Rs) := by
 obtain ⟨F, ⟨h1, rfl⟩, h2, h3⟩ := h.open
 refine (rtextm_spec r s at_ e w h1 hs ha).mono ?_
 rintro e' w' ⟨rfl, k1, k2⟩
 exact ⟨rfl, h3 (F' := fun k => k = r) _ k2 ⟨k1, rfl⟩ (fun k hk => .inl hk)⟩
theorem s_count (most : Int) (h : St lo w0 w (rrR r s at_ e :: Rs)) (hs : s.length ≤ 1099511627776) (ha : at_ ≤ s.length) : Calls Tryz.prog 77 #[.pointer (some ⟨r, 0, none⟩), .int .i64 most] w fun e' w' => e' = .returned (.int .i64 (countR s at_ e most).1) ∧ St lo w0 w' (rrR r s (countR s at_ e most).2.1 (countR s at_ e most).2.2 :: Rs) := by
 obtain ⟨F, ⟨h1, rfl⟩, h2, h3⟩ := h.open
 refine (rcount_spec r s at_ e most w h1 hs ha).mono ?_
 rintro e' w' ⟨rfl, k1, k2⟩
 exact ⟨rfl, h3 (F' := fun k => k = r) _ k2 ⟨k1, rfl⟩ (fun k hk => .inl hk)⟩
end
def sgnR (s : Sg.Str) (at_ : Nat) (e : Int) : (Int × List Sg.Str × List Sg.Str) × Nat × Int :=
 (((uintR s at_ e).1, (textsR s (uintR s at_ e).2.1 (uintR s at_ e).2.2).1, (textsR s (textsR s (uintR s at_ e).2.1 (uintR s at_ e).2.2).2.1 (textsR s (uintR s at_ e).2.1 (uintR s at_ e).2.2).2.2).1),
   (textsR s (textsR s (uintR s at_ e).2.1 (uintR s at_ e).2.2).2.1 (textsR s (uintR s at_ e).2.1 (uintR s at_ e).2.2).2.2).2)
theorem sgnR_le {s : Sg.Str} {at_ : Nat} {e : Int} (ha : at_ ≤ s.length) : (sgnR s at_ e).2.1 ≤ s.length := textsR_le (textsR_le (uintR_le ha))
set_option maxRecDepth 20000 in
set_option maxHeartbeats 4000000 in
theorem signed_spec {lo : Nat} {w0 w : World} {Rs : List Res} {r at_ : Nat} {s : Sg.Str} {e : Int} (h : St lo w0 w (rrR r s at_ e :: Rs)) (hs : s.length ≤ 1099511627776) (ha : at_ ≤ s.length) :
 Calls Tryz.prog 76 #[.pointer (some ⟨r, 0, none⟩)] w fun e' w' => ∃ a b, e' = .returned (.agg #[.int .i64 (sgnR s at_ e).1.1, a, b]) ∧ St lo w0 w' (ownR 9 1 b (sgnR s at_ e).1.2.2.length (strs (sgnR s at_ e).1.2.2) :: rrR r s (sgnR s at_ e).2.1 (sgnR s at_ e).2.2 :: ownR 9 1 a (sgnR s at_ e).1.2.1.length (strs (sgnR s at_ e).1.2.1) :: Rs) := by
 have h0 := (h.alloc 29 #[.int .i64 0, .slice none 0 0, .slice none 0 0]).swap
 have a1 : (uintR s at_ e).2.1 ≤ s.length := uintR_le ha
 have a2 : (textsR s (uintR s at_ e).2.1 (uintR s at_ e).2.2).2.1 ≤ s.length := textsR_le a1
 unfold sgnR
 dsimp only
 have ku := s_uint h0 hs ha
 have kc := fun W (h : St lo w0 W (rrR r s (uintR s at_ e).2.1 (uintR s at_ e).2.2 :: cellsR w.heap.size 29 #[.int .i64 0, .slice none 0 0, .slice none 0 0] :: Rs)) => s_texts h hs a1
 generalize uintR s at_ e = u at *
 obtain ⟨u1, u2, u3⟩ := u
 dsimp only at *
 have kt := fun W R (h : St lo w0 W (rrR r s (textsR s u2 u3).2.1 (textsR s u2 u3).2.2 :: R)) => s_texts h hs a2
 generalize textsR s u2 u3 = c at *
 obtain ⟨C, c2, c3⟩ := c
 dsimp only at *
 generalize textsR s c2 c3 = t at *
 obtain ⟨T, t2, t3⟩ := t
 dsimp only at *
 clear a1 a2 h h0
 go_enter Tryz.func76, Tryz.ntmps76
 go_wp2_with fail
 refine ku.mono ?_
 rintro e w2 ⟨rfl, h2⟩
 go_wp2_with fail
 refine (kc _ h2).mono ?_
 rintro e w3 ⟨v1, rfl, h3⟩
 obtain ⟨A1, n1, rfl, q1, q2⟩ := own_form h3.own
 go_wp2_with fail
 refine (kt _ _ h3.swap).mono ?_
 rintro e w4 ⟨v2, rfl, h4⟩
 obtain ⟨A2, n2, rfl, q3, q4⟩ := own_form h4.own
 have h5 := h4.front 3 (by simp)
 have h5 : St lo w0 w4 (cellsR w.heap.size 29 #[.int .i64 0, .slice none 0 0, .slice none 0 0] :: ownR 9 1 (.slice A2 T.length n2) T.length (strs T) :: rrR r s t2 t3 :: ownR 9 1 (.slice A1 C.length n1) C.length (strs C) :: Rs) := h5
 have d0 := h5.blk.cell 0
 have d1 := h5.blk.cell 1
 have d2 := h5.blk.cell 2
 have f0 := h5.blk.frozen 0
 have f1 := h5.blk.frozen 1
 have f2 := h5.blk.frozen 2
 have h6 := ((h5.set_ 0 (.int .i64 u1)).set_ 1 (.slice A1 C.length n1)).set_ 2 (.slice A2 T.length n2)
 have H6 := Lib.hid h6
 clear h5 h6 h4 h3 h2 ku kc kt
 go_wp2
 refine bodyPost_ret (results_cell_row rfl _ _ _ _ _ _ _ rfl H6.out.blk Tryz.underlying29 rfl size_sig) rfl ?_
 exact ⟨_, _, rfl, H6.out.tail⟩
end Go.Proofs.YtjjpdnpbhdcpbaaGreat
namespace Go.Proofs.YtjjpdnpbhdcpbaaGreat
set_option linter.unusedVariables false
open Go.RowKit Go.Shelf
attribute [local go_sem] Oper.semAt_some
def sameC (x y : SgRow) : Bool := (x.key == y.key) && samB x.i x.C x.T y.i y.C y.T
set_option maxRecDepth 20000 in
set_option maxHeartbeats 4000000 in
theorem samecos_spec (x y : SgRow) (w : World) (hx : RowOk w x) (hy : RowOk w y) :
 Calls Tryz.prog 37 #[.agg #[.string ⟨x.key.toArray⟩, .int .i64 x.i, .slice x.A x.C.length x.a, .slice x.B x.T.length x.b], .agg #[.string ⟨y.key.toArray⟩, .int .i64 y.i, .slice y.A y.C.length y.a, .slice y.B y.T.length y.b]] w fun e w' => e = .returned (.bool (sameC x y)) ∧ Below w.heap.size w w' := by
 obtain ⟨kx, i, A, C, a, B, T, b⟩ := x
 obtain ⟨ky, i', A', C', a', B', T', b'⟩ := y
 unfold sameC
 obtain ⟨x1, x2, x3, x4, x5, x6⟩ := hx
 obtain ⟨y1, y2, y3, y4, y5, y6⟩ := hy
 dsimp only at *
 obtain ⟨W0, hW0⟩ : ∃ W0, w.alloc (.cells #[.string ⟨kx.toArray⟩, .int .i64 i, .slice A C.length a, .slice B T.length b] 64) = W0 := ⟨_, rfl⟩
 have hs0 : W0.heap.size = w.heap.size + 1 := by rw [← hW0]; simp
 obtain ⟨W, hW⟩ : ∃ W, W0.alloc (.cells #[.string ⟨ky.toArray⟩, .int .i64 i', .slice A' C'.length a', .slice B' T'.length b'] 64) = W := ⟨_, rfl⟩
 have s0 := ((St.nil w).alloc 64 #[.string ⟨kx.toArray⟩, .int .i64 i, .slice A C.length a, .slice B T.length b]).alloc 64 #[.string ⟨ky.toArray⟩, .int .i64 i', .slice A' C'.length a', .slice B' T'.length b']
 rw [hW0, hW, hs0] at s0
 have b0 := s0.below
 have p0 := s0.tail.blk.cell 0
 have p1 := s0.tail.blk.cell 1
 have p2 := s0.tail.blk.cell 2
 have p3 := s0.tail.blk.cell 3
 have q0 := s0.blk.cell 0
 have q1 := s0.blk.cell 1
 have q2 := s0.blk.cell 2
 have q3 := s0.blk.cell 3
 have ks := rsame_spec i C T A B a b i' C' T' A' B' a' b' W (x1.below b0) (x2.below b0) (y1.below b0) (y2.below b0) (Nat.le_trans x3 x4) (Nat.le_trans x5 x6) (Nat.le_trans y3 y4) (Nat.le_trans y5 y6)
 generalize samB i C T i' C' T' = r at ks ⊢
 have B0 := Lib.hid b0
 clear b0 s0 x1 x2 x3 x4 x5 x6 y1 y2 y3 y4 y5 y6
 cases he : (kx == ky) with
 | false =>
   rw [Bool.false_and]
   clear ks
   go_enter Tryz.func37, Tryz.ntmps37
   go_wp2
   go_ret
   exact ⟨rfl, B0.out⟩
 | true =>
   rw [Bool.true_and]
   go_enter Tryz.func37, Tryz.ntmps37
   go_wp2_with fail
   refine ks.mono ?_
   rintro e w1 ⟨rfl, b1⟩
   have B1 := Lib.hid (B0.out.trans (b1.mono B0.out.size))
   clear b1 ks
   go_wp2
   go_ret
   exact ⟨rfl, B1.out⟩
end Go.Proofs.YtjjpdnpbhdcpbaaGreat
