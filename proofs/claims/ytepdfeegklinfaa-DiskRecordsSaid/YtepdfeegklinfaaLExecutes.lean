/-
  DiskExecutes: the walk. Conditions: none.
-/
import Derived.Test.YtepdfeegklinfaaDkX
namespace Go.Proofs.Ytepdfeegklinfaa
set_option linter.unusedVariables false
open Go.RowKit Go.ChangeMaps Go.MapKept

theorem execS_len : ∀ (L : List Dk.Op) (S : Dk.Ds), (execS S L).1.dur.length = S.dur.length ∧ (execS S L).1.pend.length ≤ S.pend.length + L.length ∧ (execS S L).1.recd.length ≤ S.recd.length + L.length
  | [], S => ⟨rfl, by simp [execS], by simp [execS]⟩
  | o :: L, S => by
    unfold execS
    by_cases hs : o.sync = true
    · rw [if_pos hs]
      obtain ⟨h1, h2, h3⟩ := execS_len L (Dk.sync S)
      obtain ⟨g1, g2, g3⟩ := sync_len S
      exact ⟨h1.trans g1, by simp only [List.length_cons]; omega, by simp only [List.length_cons]; omega⟩
    · rw [if_neg hs]
      by_cases he : Dk.wErr S.dur o.page o.data = 0
      · rw [if_pos he]
        obtain ⟨h1, h2, h3⟩ := execS_len L (Dk.write S o.page o.data)
        obtain ⟨g1, g2, g3⟩ := write_len S o.page o.data
        exact ⟨by rw [h1, g1], by simp only [List.length_cons]; omega, by simp only [List.length_cons]; omega⟩
      · rw [if_neg he]
        exact ⟨rfl, by simp only [List.length_cons]; omega, by simp only [List.length_cons]; omega⟩

set_option maxRecDepth 20000 in
set_option maxHeartbeats 4000000 in
theorem diskExecutes_walk (q : Nat) (hq1 : q ≤ 255) (A : Option Addr) (L : List Dk.Op) (c : Nat) (w : World) (hR : Rd w A (ops L)) (hl : L.length ≤ 9223372036854775807) (hd : ∀ o ∈ L, o.data.length ≤ 9223372036854775807) :
    Calls Try.prog 9 #[.int .u8 q, .slice A L.length c] w fun e w' => e = .returned (.bool true) ∧ Below w.heap.size w w' := by
  have HI := Lib.hid (And.intro hR hd)
  clear hR hd
  have hc0 : (0 : Int) ≤ (L.length : Int) := by omega
  go_enter Try.func9, Try.ntmps9
  go_wp2_with fail
  refine (awake_disk w).mono ?_
  rintro e w1 ⟨rfl, b1⟩
  by_cases h40 : 40 < L.length
  · have h40' : decide ((40 : Int) < (L.length : Int)) = true := by simp; omega
    go_wp2
    go_ret
    exact ⟨rfl, b1⟩
  have h40' : decide ((40 : Int) < (L.length : Int)) = false := by simp; omega
  cases hb : decide (bigIx L ≥ 0) with
  | true =>
    go_wp2_with fail
    refine (containsfunc_spec A L c w1 (HI.out.1.below b1) hl true hb).mono ?_
    rintro e w2 ⟨rfl, b2⟩
    go_wp2
    go_ret
    exact ⟨rfl, b1.trans (b2.mono b1.size)⟩
  | false =>
    go_wp2_with fail
    refine (containsfunc_spec A L c w1 (HI.out.1.below b1) hl false hb).mono ?_
    rintro e w1' ⟨rfl, b2⟩
    have h1 := (St.nil w).under (b1.trans (b2.mono b1.size))
    clear b1 b2 hb
    go_wp2_with fail
    refine (s_start h1 q hq1).mono ?_
    rintro e w2 ⟨d, A1, c1, A2, c2, rfl, h2⟩
    clear h1
    obtain ⟨n, hn⟩ : ∃ n, 1 + q % 12 = n := ⟨_, rfl⟩
    have hn12 : n ≤ 12 := by omega
    have hn1 : 1 ≤ n := by omega
    rw [hn] at h2 ⊢
    clear hn
    go_wp2_with fail
    have h3 := (h2.alloc 32 #[.slice A1 n c1, .slice A2 0 c2]).rot
    generalize w2.alloc (.cells #[.slice A1 n c1, .slice A2 0 c2] 32) = w3 at h3 ⊢
    generalize w2.heap.size = b at h3 ⊢
    clear h2
    have hok : Dk.Ok (blank n).dur (blank n).pend := by intro y hy; cases hy
    have hbn : (blank n).dur.length = n := by simp [blank]
    refine (s_execute A L c h3 (fun h => HI.out.1.below h.below) (by omega) HI.out.2 (by simp [blank]) (by simp [blank])).mono ?_
    rintro e w4 ⟨rfl, h4⟩
    clear h3
    have bb := (h4.front 2 (by simp)).blk
    have kb0 := bb.cell 0
    have kb1 := bb.cell 1
    have lb := bb.lt
    simp at kb0 kb1
    clear bb
    go_wp2_with fail
    have h5 : St w.heap.size w w4 (refR (.agg #[.slice A1 (blank n).dur.length c1, .slice A2 (blank n).pend.length c2]) (blank n).dur (blank n).pend :: diskR d (execS (blank n) L).1 :: cellsR b 32 #[.slice A1 n c1, .slice A2 0 c2] :: []) := by
      rw [hbn]
      exact h4.swap
    have kx := s_rexecute A L c h5 HI.out.1 rfl (by omega) hok (by rw [hbn]; omega) (by simp [blank])
    have hbp : (blank n).pend.length = 0 := rfl
    rw [hbn, hbp] at kx
    clear hbp
    with_reducible refine kx.mono ?_
    rintro e w5 ⟨A3, c3, A4, c4, rfl, h6⟩
    clear h5 kx h4 kb0 kb1 lb hbn hok
    obtain ⟨hS1, hS2, _⟩ := execS_len L (blank n)
    have hS12 : (execS (blank n) L).1.dur.length ≤ 12 := by rw [hS1]; simp [blank]; exact hn12
    have hS40 : (execS (blank n) L).1.pend.length ≤ 40 := by have : (blank n).pend.length = 0 := rfl; omega
    clear hS1 hS2
    generalize (execS (blank n) L).2 = er at h6 ⊢
    generalize (execS (blank n) L).1 = T at h6 hS12 hS40 ⊢
    have bb := (h6.front 2 (by simp)).blk
    have fb := fun i => bb.frozen i
    have kb0 := bb.cell 0
    have kb1 := bb.cell 1
    have lb := bb.lt
    simp at kb0 kb1
    clear bb
    go_wp2_with fail
    have h7 := (((h6.front 2 (by simp)).set_ 0 (.slice A3 T.dur.length c3)).set_ 1 (.slice A4 T.pend.length c4)).pick [2, 1, 0] (by decide) (by simp)
    clear h6
    generalize (w5.setCell ⟨b, 0, none⟩ (.slice A3 T.dur.length c3)).setCell ⟨b, 1, none⟩ (.slice A4 T.pend.length c4) = w6 at h7 ⊢
    clear kb0 kb1 fb lb
    have h8 := h7.drew
    have bb := (h7.front 2 (by simp)).blk
    have kS : w6.drew.cell? ⟨b, 0, none⟩ = some (.slice A3 T.dur.length c3) ∧ w6.drew.cell? ⟨b, 1, none⟩ = some (.slice A4 T.pend.length c4) := ⟨bb.cell 0, bb.cell 1⟩
    clear bb
    go_region_held3 (fun w' => w'.cell? ⟨b, 0, none⟩ = some (.slice A3 T.dur.length c3) ∧ w'.cell? ⟨b, 1, none⟩ = some (.slice A4 T.pend.length c4))
      (first
        | with_reducible exact kS
        | with_reducible exact kS8
        | with_reducible exact kS9
        | with_reducible exact kS10
        | fail)
      (first
        | (with_reducible refine (s_image h8).mono ?_
           rintro e w8 ⟨A8, c8, rfl, h9⟩
           have kS8 : w8.cell? ⟨b, 0, none⟩ = some (.slice A3 T.dur.length c3) ∧ w8.cell? ⟨b, 1, none⟩ = some (.slice A4 T.pend.length c4) := ⟨(h9.front 3 (by simp)).blk.cell 0, (h9.front 3 (by simp)).blk.cell 1⟩)
        | (with_reducible refine (rimage_spec _ T.dur T.pend w8 (h9.front 2 (by simp)).ref (by omega) (by omega)).mono ?_
           rintro e w9 ⟨A9, c9, rfl, R9, b9⟩
           have kS9 : w9.cell? ⟨b, 0, none⟩ = some (.slice A3 T.dur.length c3) ∧ w9.cell? ⟨b, 1, none⟩ = some (.slice A4 T.pend.length c4) := ⟨below_cell b9 kS8.1, below_cell b9 kS8.2⟩)
        | (with_reducible refine (equal_spec A8 A9 (Dk.image T.dur T.pend) (Dk.image T.dur T.pend) c8 c9 w9 (h9.row.below b9) R9 (by rw [image_length]; omega) (by rw [image_length]; omega)).mono ?_
           rintro e w10 ⟨rfl, n10, rfl⟩
           rw [decide_eq_true (rfl : Dk.image T.dur T.pend = Dk.image T.dur T.pend)]
           have kS10 : (w9.drewN n10).cell? ⟨b, 0, none⟩ = some (.slice A3 T.dur.length c3) ∧ (w9.drewN n10).cell? ⟨b, 1, none⟩ = some (.slice A4 T.pend.length c4) := kS9)
        | (with_reducible refine (s_pending (((h9.front 1 (by simp)).under b9).drewN n10)).mono ?_
           rintro e w11 ⟨rfl, rfl⟩)
        | fail)
    · go_wp2
      go_ret
      exact ⟨rfl, ((h9.under b9).drewN n10).below⟩
end Go.Proofs.Ytepdfeegklinfaa
