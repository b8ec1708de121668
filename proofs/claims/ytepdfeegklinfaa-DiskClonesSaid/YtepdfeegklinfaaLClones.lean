/-
  DiskClones: the walk. Conditions: none.
-/
import Derived.Test.YtepdfeegklinfaaDkSep
namespace Go.Proofs.Ytepdfeegklinfaa
set_option linter.unusedVariables false
open Go.RowKit Go.ChangeMaps Go.MapKept

set_option maxRecDepth 20000 in
set_option maxHeartbeats 4000000 in
theorem diskClones_walk (q : Nat) (hq1 : q ≤ 255) (A : Option Addr) (L : List Ac) (c : Nat) (A' : Option Addr) (M : List Ac) (c' : Nat) (B : Option Addr) (cs : List Int) (cc : Nat) (w : World) (hR : Rd w A (acts L)) (hl : L.length ≤ 9223372036854775807) (hok : ∀ a ∈ L, AcOk w a)
    (hR' : Rd w A' (acts M)) (hl' : M.length ≤ 9223372036854775807) (hok' : ∀ a ∈ M, AcOk w a) (hRc : Rd w B (ints cs)) (hcl : cs.length ≤ 9223372036854775807) :
    Calls Try.prog 5 #[.int .u8 q, .slice A L.length c, .slice A' M.length c', .slice B cs.length cc] w fun e w' => e = .returned (.bool true) ∧ Below w.heap.size w w' := by
  have HI := Lib.hid (And.intro hR (And.intro hok (And.intro hR' (And.intro hok' hRc))))
  clear hR hok hR' hok' hRc
  have hc0 : (0 : Int) ≤ (cs.length : Int) := by omega
  go_enter Try.func5, Try.ntmps5
  go_wp2_with fail
  refine (awake_disk w).mono ?_
  rintro e w1 ⟨rfl, b1⟩
  have h1 := (St.nil w).under b1
  go_wp2_with fail
  refine (few_spec A L c w1 (HI.out.1.below b1) hl (fun a ha => (HI.out.2.1 a ha).below b1)).mono ?_
  rintro e w1' ⟨rfl, rfl⟩
  by_cases hf : few L = true
  · rw [hf]
    go_wp2_with fail
    refine (few_spec A' M c' w1 (HI.out.2.2.1.below b1) hl' (fun a ha => (HI.out.2.2.2.1 a ha).below b1)).mono ?_
    rintro e w1' ⟨rfl, rfl⟩
    by_cases hg : few M = true
    · rw [hg]
      by_cases h20 : 20 < cs.length
      · have h20' : decide ((20 : Int) < (cs.length : Int)) = true := by simp; omega
        go_wp2
        go_ret
        exact ⟨rfl, b1⟩
      have h20' : decide ((20 : Int) < (cs.length : Int)) = false := by simp; omega
      go_wp2_with fail
      refine (s_start h1 q hq1).mono ?_
      rintro e w2 ⟨d, A1, c1, A2, c2, rfl, h2⟩
      clear h1 b1
      obtain ⟨n, hn⟩ : ∃ n, 1 + q % 12 = n := ⟨_, rfl⟩
      have hn12 : n ≤ 12 := by omega
      have hn1 : 1 ≤ n := by omega
      rw [hn] at h2 ⊢
      clear hn
      go_wp2_with fail
      have h3 := (h2.alloc 32 #[.slice A1 n c1, .slice A2 0 c2]).rot
      generalize w2.alloc (.cells #[.slice A1 n c1, .slice A2 0 c2] 32) = w3 at h3 ⊢
      generalize w2.heap.size = b at h3 ⊢
      clear h2
      have h0 : DoS w.heap.size w b d n 0 [] (blank n) w3 := ⟨A1, c1, A2, c2, by simpa [blank] using h3, by simp [blank], by simp [blank], by simp [blank]⟩
      clear h3
      have hL40 := (few_at hf).2
      have hM40 := (few_at hg).2
      go_wp2
      go_loopw [42] (fun i wr => ∃ (k : Nat) (S : Dk.Ds), k ≤ L.length ∧ i = .int .i64 k ∧ DoS w.heap.size w b d n k [] S wr) (fun i _ => L.length - (intOf i).toNat)
      case atStart => exact ⟨0, _, Nat.zero_le _, rfl, h0⟩
      case round =>
        clear h0
        obtain ⟨k, S, hk, rfl, A6, c6, A7, c7, h, hSn, hSp, hSr⟩ := hrel
        have HN := Lib.hid hSn
        have hS12 : S.dur.length ≤ 12 := by omega
        clear hSn
        by_cases hlt : k < L.length
        · obtain ⟨b0, off, rfl, hbl, hcc⟩ := rd_elem acc 5 (fun _ => rfl) (HI.out.1.below h.below) hlt (by omega)
          have hc0 := hcc 0 _ rfl
          have hc1 := hcc 1 _ rfl
          have hc2 := hcc 2 _ rfl
          have hc3 := hcc 3 _ rfl
          have hc4 := hcc 4 _ rfl
          have hoka := HI.out.2.1 _ (List.getElem_mem hlt)
          have hfa := (few_at hf).1 _ (List.getElem_mem hlt)
          obtain ⟨a, ha⟩ : ∃ a, L[k] = a := ⟨_, rfl⟩
          rw [ha] at hc0 hc1 hc2 hc3 hc4 hoka hfa
          simp only [Nat.add_zero] at hc0
          have hk1 : (k : Int) < (L.length : Int) := by omega
          have hk0 : (0 : Int) ≤ (k : Int) := by omega
          have HK := Lib.hid hoka
          clear hoka ha hcc
          have bB := (h.front 2 (by simp)).blk
          have kB0 := bB.cell 0
          have kB1 := bB.cell 1
          have lB := bB.lt
          simp at kB0 kB1
          clear bB
          obtain ⟨t1, t2, t3⟩ := stepS_len S a
          have HT := Lib.hid t1
          clear t1
          go_wp2_with fail
          have h5 := (h.alloc 41 #[.int .u8 a.kind, .int .i64 a.op.page, .string ⟨a.op.data.toArray⟩, .bool a.op.sync, .slice a.A a.cs.length a.c]).rot
          have kdo := s_do a h5 (by omega) (by omega) HK.out rfl
          unfold acV at kdo
          with_reducible refine kdo.mono ?_
          clear kdo kB0 kB1 lB
          rintro e w5 ⟨A8, c8, A9, c9, rfl, h6⟩
          clear h h5
          generalize stepS S a = T at h6 HT t2 t3 ⊢
          have bb := (h6.front 2 (by simp)).blk
          have fb := fun i => bb.frozen i
          have lb := bb.lt
          have kb0 := bb.cell 0
          have kb1 := bb.cell 1
          simp at kb0 kb1
          clear bb
          go_wp2
          go_roundw
          case rel => exact ⟨k + 1, T, by omega, by go_num, A8, c8, A9, c9, (((h6.front 2 (by simp)).set_ 0 (.slice A8 T.dur.length c8)).set_ 1 (.slice A9 T.pend.length c9)).pick [1, 2, 0] (by decide) (by simp), HT.out.trans HN.out, by omega, by omega⟩
          case measure => simp [intOf]; omega
        · obtain rfl : k = L.length := by omega
          go_wp2_with fail
          refine (s_clone h (by omega)).mono ?_
          rintro e w4 ⟨x, rfl, h4⟩
          clear h
          go_wp2_with fail
          refine (s_clone h4.swap (by omega)).mono ?_
          rintro e w5 ⟨y, rfl, h5⟩
          clear h4
          go_wp2_with fail
          refine (s_image h5.swap).mono ?_
          rintro e w6 ⟨A3, c3, rfl, h6⟩
          clear h5
          have hil : (Dk.image S.dur S.pend).length ≤ 12 := by rw [image_length]; exact hS12
          obtain ⟨I, hI⟩ : ∃ I, Dk.image S.dur S.pend = I := ⟨_, rfl⟩
          rw [hI] at h6 hil ⊢
          have HS := Lib.hid hI
          clear hI
          have h0 : DoS w.heap.size w b d n 40 [diskR y (Dk.clone S), diskR x (Dk.clone S), rowR A3 c3 I] S w6 := ⟨A6, c6, A7, c7, h6.pick [1, 4, 5, 2, 3, 0] (by decide) (by simp), HN.out, by omega, by omega⟩
          have hP0 : S.pend.length ≤ 40 := by omega
          clear h6 hSp hSr
          go_wp2
          go_loopw [68] (fun i wr => ∃ (k : Nat) (U : Dk.Ds), k ≤ M.length ∧ i = .int .i64 k ∧ DoS w.heap.size w b d n (40 + k) [diskR y (Dk.clone S), diskR x (Dk.clone S), rowR A3 c3 I] U wr) (fun i _ => M.length - (intOf i).toNat)
          case atStart => exact ⟨0, _, Nat.zero_le _, rfl, h0⟩
          case round =>
            clear h0 HN hS12 hlt
            obtain ⟨k, T0, hk, rfl, A6, c6, A7, c7, h, hSn, hSp, hSr⟩ := hrel
            have HN := Lib.hid hSn
            have hS12 : T0.dur.length ≤ 12 := by omega
            clear hSn
            by_cases hlt : k < M.length
            · obtain ⟨b0, off, rfl, hbl, hcc⟩ := rd_elem acc 5 (fun _ => rfl) (HI.out.2.2.1.below h.below) hlt (by omega)
              have hc0 := hcc 0 _ rfl
              have hc1 := hcc 1 _ rfl
              have hc2 := hcc 2 _ rfl
              have hc3 := hcc 3 _ rfl
              have hc4 := hcc 4 _ rfl
              have hoka := HI.out.2.2.2.1 _ (List.getElem_mem hlt)
              have hfa := (few_at hg).1 _ (List.getElem_mem hlt)
              obtain ⟨a, ha⟩ : ∃ a, M[k] = a := ⟨_, rfl⟩
              rw [ha] at hc0 hc1 hc2 hc3 hc4 hoka hfa
              simp only [Nat.add_zero] at hc0
              have hk1 : (k : Int) < (M.length : Int) := by omega
              have hk0 : (0 : Int) ≤ (k : Int) := by omega
              have HK := Lib.hid hoka
              clear hoka ha hcc
              have bB := (h.front 2 (by simp)).blk
              have kB0 := bB.cell 0
              have kB1 := bB.cell 1
              have lB := bB.lt
              simp at kB0 kB1
              clear bB
              obtain ⟨t1, t2, t3⟩ := stepS_len T0 a
              have HT := Lib.hid t1
              clear t1
              go_wp2_with fail
              have h5 := (h.alloc 41 #[.int .u8 a.kind, .int .i64 a.op.page, .string ⟨a.op.data.toArray⟩, .bool a.op.sync, .slice a.A a.cs.length a.c]).rot
              have kdo := s_do a h5 (by omega) (by omega) HK.out rfl
              unfold acV at kdo
              with_reducible refine kdo.mono ?_
              clear kdo kB0 kB1 lB
              rintro e w5 ⟨A8, c8, A9, c9, rfl, h6⟩
              clear h h5
              generalize stepS T0 a = T at h6 HT t2 t3 ⊢
              have bb := (h6.front 2 (by simp)).blk
              have fb := fun i => bb.frozen i
              have lb := bb.lt
              have kb0 := bb.cell 0
              have kb1 := bb.cell 1
              simp at kb0 kb1
              clear bb
              go_wp2
              go_roundw
              case rel => exact ⟨k + 1, T, by omega, by go_num, A8, c8, A9, c9, (((h6.front 2 (by simp)).set_ 0 (.slice A8 T.dur.length c8)).set_ 1 (.slice A9 T.pend.length c9)).pick [1, 2, 0, 3, 4, 5] (by decide) (by simp), HT.out.trans HN.out, by omega, by omega⟩
              case measure => simp [intOf]; omega
            · obtain rfl : k = M.length := by omega
              go_wp2_with fail
              refine (s_image (h.front 4 (by simp))).mono ?_
              rintro e w7 ⟨A10, c10, rfl, h7⟩
              have hI' : Dk.image (Dk.clone S).dur (Dk.clone S).pend = I := HS.out
              rw [hI'] at h7 ⊢
              clear h hI'
              go_wp2_with fail
              refine (equal_spec A10 A3 I I c10 c3 w7 h7.row (h7.front 6 (by simp)).row (by omega) (by omega)).mono ?_
              rintro e w8 ⟨rfl, n8, rfl⟩
              rw [decide_eq_true (rfl : I = I)]
              have h8 := (h7.drewN n8).pick [1, 5] (by decide) (by simp)
              generalize w7.drewN n8 = w8 at h8 ⊢
              clear h7
              go_wp2_with fail
              refine (s_pending h8).mono ?_
              rintro e w8' ⟨rfl, rfl⟩
              go_wp2_with fail
              refine (s_pending h8.swap).mono ?_
              rintro e w8' ⟨rfl, rfl⟩
              go_wp2_with fail
              refine (s_record h8 false).mono ?_
              rintro e w9 ⟨A11, c11, rfl, h9⟩
              clear h8
              have hr0 : (Dk.clone S).recd.length = 0 := rfl
              rw [hr0]
              go_wp2_with fail
              refine (s_crash h9 B cs cc (HI.out.2.2.2.2.below h9.below) hcl (ints_lt HI.out.2.2.2.2) (by show S.pend.length ≤ _; omega)).mono ?_
              rintro e w10 ⟨rfl, h10⟩
              clear h9
              go_wp2_with fail
              refine (s_crash (h10.front 2 (by simp)) B cs cc (HI.out.2.2.2.2.below h10.below) hcl (ints_lt HI.out.2.2.2.2) (by show S.pend.length ≤ _; omega)).mono ?_
              rintro e w11 ⟨rfl, h11⟩
              clear h10
              go_wp2_with fail
              refine (s_image h11.swap).mono ?_
              rintro e w12 ⟨A12, c12, rfl, h12⟩
              clear h11
              go_wp2_with fail
              refine (s_image (h12.front 2 (by simp))).mono ?_
              rintro e w13 ⟨A13, c13, rfl, h13⟩
              clear h12
              obtain ⟨I2, hI2⟩ : ∃ I2, Dk.image (Dk.crash (Dk.clone S) cs).dur (Dk.crash (Dk.clone S) cs).pend = I2 := ⟨_, rfl⟩
              have hI3 : Dk.image (Dk.crash { dur := (Dk.clone S).dur, pend := (Dk.clone S).pend, rc := false, recd := [] } cs).dur (Dk.crash { dur := (Dk.clone S).dur, pend := (Dk.clone S).pend, rc := false, recd := [] } cs).pend = I2 := hI2
              have hl2 : I2.length ≤ 12 := by
                rw [← hI2, image_length]
                show (Dk.crashD _ _ _ S.dur).length ≤ _
                rw [Dk.crashD_length]
                have := HS.out
                rw [← this, image_length] at hil
                exact hil
              rw [hI2, hI3] at h13
              rw [hI2, hI3]
              clear hI2 hI3
              go_wp2_with fail
              refine (equal_spec A12 A13 I2 I2 c12 c13 w13 (h13.front 2 (by simp)).row h13.row (by omega) (by omega)).mono ?_
              rintro e w14 ⟨rfl, n14, rfl⟩
              rw [decide_eq_true (rfl : I2 = I2)]
              go_wp2
              go_ret
              exact ⟨rfl, (h13.drewN n14).below⟩
    · rw [Bool.not_eq_true] at hg
      rw [hg]
      go_wp2
      go_ret
      exact ⟨rfl, b1⟩
  · rw [Bool.not_eq_true] at hf
    rw [hf]
    go_wp2
    go_ret
    exact ⟨rfl, b1⟩
end Go.Proofs.Ytepdfeegklinfaa
