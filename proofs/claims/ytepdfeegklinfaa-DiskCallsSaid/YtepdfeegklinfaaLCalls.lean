/-
  DiskCalls: the walk. Conditions: none.
-/
import Derived.Test.YtepdfeegklinfaaDkV
import Derived.Test.YtepdfeegklinfaaDkAw
import Derived.Test.YtepdfeegklinfaaDk2
namespace Go.Proofs.Ytepdfeegklinfaa
set_option linter.unusedVariables false
open Go.RowKit Go.ChangeMaps Go.MapKept

/-- New of the program and of the reference have one error, whatever the number -/
theorem new_any (p : Int) (w : World) : Calls Try.prog 12 #[.int .i64 p] w fun e w' => ∃ v, e = .returned (.tuple #[v, .int .i64 (if 1 ≤ p ∧ p ≤ 4096 then 0 else 2)]) ∧ Below w.heap.size w w' := by
  by_cases h : 1 ≤ p ∧ p ≤ 4096
  · obtain ⟨n, rfl⟩ : ∃ n : Nat, p = n := ⟨p.toNat, by omega⟩
    rw [if_pos h]
    exact (new_spec n w (by omega) (by omega)).mono fun e w' ⟨d, he, _, hb⟩ => ⟨_, he, hb⟩
  · rw [if_neg h]
    exact (new_no p w (by omega)).mono fun e w' ⟨he, hw⟩ => ⟨_, he, by subst hw; exact Below.refl _ _⟩
theorem rnew_any (p : Int) (w : World) : Calls Try.prog 13 #[.int .i64 p] w fun e w' => ∃ A n c B m d, e = .returned (.tuple #[.agg #[.slice A n c, .slice B m d], .int .i64 (if 1 ≤ p ∧ p ≤ 4096 then 0 else 2)]) ∧ Below w.heap.size w w' := by
  by_cases h : 1 ≤ p ∧ p ≤ 4096
  · obtain ⟨n, rfl⟩ : ∃ n : Nat, p = n := ⟨p.toNat, by omega⟩
    rw [if_pos h]
    refine (rnew_spec n w (by omega) (by omega)).mono ?_
    rintro e w' ⟨v, he, ⟨A0, c0, A1, c1, rfl, _⟩, hb, _⟩
    exact ⟨_, _, _, _, _, _, he, hb⟩
  · rw [if_neg h]
    exact (rnew_no p w (by omega)).mono fun e w' ⟨he, hb⟩ => ⟨_, _, _, _, _, _, he, hb⟩
set_option maxRecDepth 20000 in
set_option maxHeartbeats 4000000 in
theorem diskCalls_walk (p : Int) (hp1 : -9223372036854775808 ≤ p) (hp2 : p ≤ 9223372036854775807) (A : Option Addr) (L : List Ac) (c : Nat) (read : Int) (w : World) (hR : Rd w A (acts L)) (hl : L.length ≤ 9223372036854775807) (hok : ∀ a ∈ L, AcOk w a) :
    Calls Try.prog 3 #[.int .i64 p, .slice A L.length c, .int .i64 read] w fun e w' => e = .returned (.bool true) ∧ Below w.heap.size w w' := by
  have HI := Lib.hid (And.intro hR hok)
  clear hR hok
  go_enter Try.func3, Try.ntmps3
  go_wp2_with fail
  refine (awake_disk w).mono ?_
  rintro e w1 ⟨rfl, b1⟩
  have s1 := b1.size
  go_wp2_with fail
  refine (few_spec A L c w1 (HI.out.1.below b1) hl (fun a ha => (HI.out.2 a ha).below b1)).mono ?_
  rintro e w1' ⟨rfl, rfl⟩
  by_cases hf : few L = true
  · rw [hf]
    go_wp2_with fail
    refine (new_any p w1).mono ?_
    rintro e w2 ⟨v2, rfl, b2⟩
    replace b2 := b1.trans (b2.mono s1)
    clear b1
    have s2 := b2.size
    obtain ⟨er, her⟩ : ∃ er : Int, (if 1 ≤ p ∧ p ≤ 4096 then 0 else 2) = er := ⟨_, rfl⟩
    rw [her]
    go_wp2_with fail
    refine (rnew_any p w2).mono ?_
    rintro e w3 ⟨A0, n0, c0, B0, m0, d0, rfl, b3⟩
    rw [her]
    replace b3 := b2.trans (b3.mono s2)
    clear b2 her
    have s3 := b3.size
    go_wp2_with fail
    obtain ⟨q, hq⟩ : ∃ q : Nat, p % 256 = q := ⟨(p % 256).toNat, by omega⟩
    have hq1 : q ≤ 255 := by omega
    rw [hq]
    have b4 : Below w.heap.size w (w3.alloc (.cells #[.slice A0 n0 c0, .slice B0 m0 d0] 32)) := b3.alloc s3 _
    generalize w3.alloc (.cells #[.slice A0 n0 c0, .slice B0 m0 d0] 32) = w4 at b4 ⊢
    clear b3 hq
    have s4 := b4.size
    refine (start_spec q hq1 w4).mono ?_
    rintro e w5 ⟨d, v, F, rfl, D5, V5, b5, hF5, hG5⟩
    obtain ⟨A1, c1, A2, c2, rfl, hv5⟩ := id V5
    clear hv5
    have hn : 1 + q % 12 ≤ 12 := by omega
    obtain ⟨n, hnn⟩ : ∃ n, 1 + q % 12 = n := ⟨_, rfl⟩
    rw [hnn] at D5 V5 hn hG5 ⊢
    rw [List.length_replicate] at V5 hG5 ⊢
    have T5 : Two w5 F (fun k => w4.heap.size ≤ k ∧ k < w5.heap.size ∧ ¬ F k) d (.agg #[.slice A1 n c1, .slice A2 0 c2]) (blank n) := ⟨D5, V5, hG5, fun k hk hg => hg.2.2 hk, fun k hg => hg.2.1⟩
    have s5 := b5.size
    have HT := Lib.hid (And.intro T5 (And.intro (b4.trans (b5.mono s4)) hF5))
    clear hnn D5 V5 hG5 T5 b4 b5 hF5
    go_wp2_with fail
    have hL40 := (few_at hf).2
    have h0 : Rnd w.heap.size n w5.heap.size d 0 w (w5.alloc (.cells #[.slice A1 n c1, .slice A2 0 c2] 32)) (blank n) := by
      obtain ⟨T5, b5, hF5⟩ := HT.out
      have hfb := T5.D.fb
      refine ⟨F, (fun k => w4.heap.size ≤ k ∧ k < w5.heap.size ∧ ¬ F k), A1, c1, A2, c2, ?_, ?_, fun h => by have := hfb _ h; omega, fun h => by have := h.2.1; omega, fun k hk => by have := hF5 k hk; omega, b5.alloc b5.size _, b5.size, by simp [blank], Nat.le_refl _, Nat.le_refl _⟩
      · have := T5.under ((Below.refl _ w5).alloc (Nat.le_refl _) (.cells #[.slice A1 n c1, .slice A2 0 c2] 32))
        simpa [blank] using this
      · have := Blk.new w5 32 #[.slice A1 n c1, .slice A2 0 c2]
        simpa [blank] using this
    generalize w5.alloc (.cells #[.slice A1 n c1, .slice A2 0 c2] 32) = w6 at h0 ⊢
    have s56 : w.heap.size ≤ w5.heap.size := by omega
    clear HT
    go_loopw [48] (fun i wr => ∃ (k : Nat) (S : Dk.Ds), k ≤ L.length ∧ i = .int .i64 k ∧ Rnd w.heap.size n w5.heap.size d k w wr S) (fun i _ => L.length - (intOf i).toNat)
    case atStart => exact ⟨0, _, Nat.zero_le _, rfl, h0⟩
    case round =>
      obtain ⟨k, S, hk, rfl, hr⟩ := hrel
      by_cases hlt : k < L.length
      · have hbe : Below w.heap.size w wr := by obtain ⟨F, G, A1, c1, A2, c2, T, bB, hFB, hGB, hlo, hbe, _⟩ := hr; exact hbe
        obtain ⟨b, off, rfl, hbl, hcc⟩ := rd_elem acc 5 (fun _ => rfl) (HI.out.1.below hbe) hlt (by omega)
        have hc0 := hcc 0 _ rfl
        have hc1 := hcc 1 _ rfl
        have hc2 := hcc 2 _ rfl
        have hc3 := hcc 3 _ rfl
        have hc4 := hcc 4 _ rfl
        have hoka := HI.out.2 _ (List.getElem_mem hlt)
        have hfa := (few_at hf).1 _ (List.getElem_mem hlt)
        obtain ⟨a, ha⟩ : ∃ a, L[k] = a := ⟨_, rfl⟩
        rw [ha] at hc0 hc1 hc2 hc3 hc4 hoka hfa
        simp only [Nat.add_zero] at hc0
        have hk1 : (k : Int) < (L.length : Int) := by omega
        have hk0 : (0 : Int) ≤ (k : Int) := by omega
        obtain ⟨F, G, A1, c1, A2, c2, T, bB, hFB, hGB, hlo, _, hB, hn', hp', hr'⟩ := hr
        have kB0 := bB.cell 0
        have kB1 := bB.cell 1
        simp at kB0 kB1
        have lB := bB.lt
        have HN' := Lib.hid hn'
        have hd' : S.dur.length ≤ 12 := by omega
        clear hn'
        have HRr := Lib.hid (And.intro T (And.intro bB (And.intro hFB (And.intro hGB (And.intro hlo (And.intro hbe hoka))))))
        clear T bB hFB hGB hlo hbe hoka ha hcc
        go_wp2_with fail
        have hW1 : Below wr.heap.size wr (wr.alloc (.cells #[.int .u8 a.kind, .int .i64 a.op.page, .string ⟨a.op.data.toArray⟩, .bool a.op.sync, .slice a.A a.cs.length a.c] 41)) := (Below.refl _ wr).alloc (Nat.le_refl _) _
        generalize wr.alloc (.cells #[.int .u8 a.kind, .int .i64 a.op.page, .string ⟨a.op.data.toArray⟩, .bool a.op.sync, .slice a.A a.cs.length a.c] 41) = W1 at hW1 ⊢
        have hsr := HRr.out.2.2.2.2.2.1.size
        have hs1 := hW1.size
        have kdo := do_spec F G d _ S a W1 (HRr.out.1.under hW1) (by omega) (by omega) (by omega) ((HRr.out.2.2.2.2.2.2.below HRr.out.2.2.2.2.2.1).below hW1) (fun hne p hp hf => by
          have h1 := HRr.out.2.2.2.2.1 _ hf
          have h2 : p.block < w.heap.size := by
            rcases HRr.out.2.2.2.2.2.2.1 with h | ⟨b, o, hA, hc⟩
            · exact absurd (List.eq_nil_of_length_eq_zero (by have := congrArg List.length h; rwa [ints_length] at this)) hne
            · rw [hA] at hp
              injection hp with hp
              subst hp
              exact World.block_lt_of_cell? w _ (hc 0 (by rw [ints_length]; exact List.length_pos_iff.2 hne))
          omega)
        unfold acV at kdo
        with_reducible refine kdo.mono ?_
        clear kdo
        rintro e w2 ⟨v', F', G', rfl, T', m', hF', hG'⟩
        obtain ⟨A3, c3, A4, c4, rfl, _⟩ := id T'.R
        have bB2 := (HRr.out.2.1.below hW1).mod m' HRr.out.2.2.1
        have kB0 := bB2.cell 0
        have kB1 := bB2.cell 1
        have fB := fun i => bB2.frozen i
        have lB2 := bB2.lt
        simp at kB0 kB1
        have HD := Lib.hid (And.intro T' (And.intro m' (And.intro hF' (And.intro hG' hW1))))
        clear T' m' hF' hG' hW1 bB2
        go_wp2_with fail
        have hlen := stepS_len S a
        have hS'd : (stepS S a).dur.length ≤ 12 := by rw [hlen.1]; exact hd'
        have hS'p : (stepS S a).pend.length ≤ k + 1 := by omega
        have hnx := (rnd_next HD.out.1 (HRr.out.2.1.below HD.out.2.2.2.2) HRr.out.2.2.1 HRr.out.2.2.2.1 HRr.out.2.2.2.2.1 (HRr.out.2.2.2.2.2.1.trans (HD.out.2.2.2.2.mono (by omega))) hB (by omega) HD.out.2.1 HD.out.2.2.1 HD.out.2.2.2.1 (Below.refl _ w2) (hlen.1.trans HN'.out) hS'p (by omega)).under ((Below.refl _ _).alloc (Nat.le_refl _) (.cells #[.slice A3 (stepS S a).dur.length c3, .slice A4 (stepS S a).pend.length c4] 32))
        clear hlen
        generalize (((w2.setCell ⟨w5.heap.size, 0, none⟩ (.slice A3 (stepS S a).dur.length c3)).setCell ⟨w5.heap.size, 1, none⟩ (.slice A4 (stepS S a).pend.length c4)).alloc (.cells #[.slice A3 (stepS S a).dur.length c3, .slice A4 (stepS S a).pend.length c4] 32)) = W4 at hnx ⊢
        clear HD HRr kB0 kB1 fB lB2 hp' hr' lB hc0 hc1 hc2 hc3 hc4
        generalize stepS S a = T at hnx hS'd hS'p ⊢
        obtain ⟨F3, G3, B1, e1, B2, e2, T4, bB4, hFB4, hGB4, hlo4, hbe4, _, hn4, hp4, hr4⟩ := hnx
        have kB0 := bB4.cell 0
        have kB1 := bB4.cell 1
        simp at kB0 kB1
        have kS : W4.drew.cell? ⟨w5.heap.size, 0, none⟩ = some (.slice B1 T.dur.length e1) ∧ W4.drew.cell? ⟨w5.heap.size, 1, none⟩ = some (.slice B2 T.pend.length e2) := ⟨kB0, kB1⟩
        have T4d := T4.under (Below.drew (Below.refl _ W4))
        have HQ := Lib.hid (And.intro T4 (And.intro T4d (And.intro bB4 (And.intro hFB4 (And.intro hGB4 (And.intro hlo4 (And.intro hbe4 hn4)))))))
        clear T4 T4d bB4 hFB4 hGB4 hlo4 hbe4 hn4
        go_region_held3 (fun w' => w'.cell? ⟨w5.heap.size, 0, none⟩ = some (.slice B1 T.dur.length e1) ∧ w'.cell? ⟨w5.heap.size, 1, none⟩ = some (.slice B2 T.pend.length e2))
          (first
            | with_reducible exact kS
            | with_reducible exact kS8
            | with_reducible exact kS9
            | with_reducible exact kS10
            | fail)
          (first
            | (with_reducible refine (pending_spec F3 d T W4.drew HQ.out.2.1.D).mono ?_
               rintro e w7 ⟨rfl, rfl⟩)
            | (with_reducible refine (image_spec F3 d T W4.drew HQ.out.2.1.D (by omega)).mono ?_
               rintro e w8 ⟨A8, c8, rfl, R8, b8⟩
               have kS8 : w8.cell? ⟨w5.heap.size, 0, none⟩ = some (.slice B1 T.dur.length e1) ∧ w8.cell? ⟨w5.heap.size, 1, none⟩ = some (.slice B2 T.pend.length e2) := ⟨below_cell b8 kS.1, below_cell b8 kS.2⟩)
            | (with_reducible refine (rimage_spec _ T.dur T.pend w8 (HQ.out.2.1.R.below b8) (by omega) (by omega)).mono ?_
               rintro e w9 ⟨A9, c9, rfl, R9, b9⟩
               have kS9 : w9.cell? ⟨w5.heap.size, 0, none⟩ = some (.slice B1 T.dur.length e1) ∧ w9.cell? ⟨w5.heap.size, 1, none⟩ = some (.slice B2 T.pend.length e2) := ⟨below_cell b9 kS8.1, below_cell b9 kS8.2⟩)
            | (with_reducible refine (equal_spec A8 A9 (Dk.image T.dur T.pend) (Dk.image T.dur T.pend) c8 c9 w9 (R8.below b9) R9 (by rw [image_length]; omega) (by rw [image_length]; omega)).mono ?_
               rintro e w10 ⟨rfl, n10, rfl⟩
               rw [decide_eq_true (rfl : Dk.image T.dur T.pend = Dk.image T.dur T.pend)]
               have kS10 : (w9.drewN n10).cell? ⟨w5.heap.size, 0, none⟩ = some (.slice B1 T.dur.length e1) ∧ (w9.drewN n10).cell? ⟨w5.heap.size, 1, none⟩ = some (.slice B2 T.pend.length e2) := kS9))
        · go_wp2
          go_round
          case rel =>
            obtain ⟨T4, T4d, bB4, hFB4, hGB4, hlo4, hbe4, hn4⟩ := HQ.out
            refine ⟨k + 1, T, by omega, by go_num, ?_⟩
            have hr : Rnd w.heap.size n w5.heap.size d (k + 1) w W4 T := ⟨F3, G3, B1, e1, B2, e2, T4, bB4, hFB4, hGB4, hlo4, hbe4, hB, hn4, hp4, hr4⟩
            have hb : Below W4.heap.size W4 (w9.drewN n10) := (((Below.refl _ W4).drew.trans b8).trans (b9.mono b8.size)).trans ((bdrew w9 n10).mono (by have := b8.size; have := b9.size; simp at *; omega))
            exact hr.under hb
          case measure => simp [intOf]; omega
      · obtain rfl : k = L.length := by omega
        obtain ⟨F, G, A1, c1, A2, c2, T, bB, hFB, hGB, hlo, hbe, hB, hn', hp', hr'⟩ := hr
        have kB0 := bB.cell 0
        have kB1 := bB.cell 1
        simp at kB0 kB1
        have lB := bB.lt
        have HQ := Lib.hid (And.intro T (And.intro bB (And.intro hFB (And.intro hGB (And.intro hlo (And.intro hbe hn'))))))
        have hS'd : S.dur.length ≤ 12 := by omega
        clear T bB hFB hGB hlo hbe hn'
        go_wp2_with fail
        refine (read_spec F d S read wr HQ.out.1.D).mono ?_
        rintro e w7 ⟨rfl, rfl⟩
        obtain ⟨y, hy⟩ : ∃ y, (Dk.read S.dur S.pend read).1 = y := ⟨_, rfl⟩
        obtain ⟨z, hz⟩ : ∃ z, (Dk.read S.dur S.pend read).2 = z := ⟨_, rfl⟩
        rw [hy, hz]
        go_wp2_with fail
        refine (rread_spec _ S.dur S.pend read wr HQ.out.1.R (by omega) (by omega)).mono ?_
        rintro e w8 ⟨rfl, b8⟩
        rw [hy, hz]
        go_wp2_with fail
        have kS : w8.drew.cell? ⟨w5.heap.size, 0, none⟩ = some (.slice A1 S.dur.length c1) := below_cell b8 kB0
        have D8 := HQ.out.1.D.under (b8.drew)
        go_region_held3 (fun w' => w'.cell? ⟨w5.heap.size, 0, none⟩ = some (.slice A1 S.dur.length c1))
          (first
            | with_reducible exact kS
            | fail)
          (first
            | (with_reducible refine (pages_spec F d S w8.drew D8).mono ?_
               rintro e w7 ⟨rfl, rfl⟩)
            | fail)
        · go_wp2
          go_ret
          refine ⟨rfl, ?_⟩
          have := HQ.out.2.2.2.2.2.1
          exact this.trans (b8.drew.mono (by have := this.size; omega))
  · rw [Bool.not_eq_true] at hf
    rw [hf]
    go_wp2
    go_ret
    exact ⟨rfl, b1⟩
end Go.Proofs.Ytepdfeegklinfaa
