/-
  DiskDurable: the walk. Conditions: none.
-/
import Derived.Test.YtepdfeegklinfaaDkSep
namespace Go.Proofs.Ytepdfeegklinfaa
set_option linter.unusedVariables false
open Go.RowKit Go.ChangeMaps Go.MapKept

theorem cont_syncD {dur : List Dk.Str} {pend : List Dk.Wr} (hok : Dk.Ok dur pend) (p : Nat) (hp : p < dur.length) : (Dk.syncD dur pend).getD p [] = Dk.cont dur pend p := by
  suffices H : ∀ (pend : List Dk.Wr) (dur : List Dk.Str), p < dur.length → (Dk.syncD dur pend).getD p [] = Dk.cont dur pend p from H pend dur hp
  intro pend
  induction pend with
  | nil => intro dur hp; simp [Dk.syncD, Dk.cont, Dk.last]
  | cons x P ih =>
    intro dur hp
    have := ih (dur.set x.1 x.2) (by simpa using hp)
    simp only [Dk.syncD, List.foldl_cons, Dk.put] at this ⊢
    rw [this]
    unfold Dk.cont
    simp only [Dk.last]
    cases hl : Dk.last P p with
    | some y => rfl
    | none =>
      by_cases e : x.1 = p
      · subst e; simp [hp]
      · simp [e, List.getElem?_set_ne e]
theorem image_sync {dur : List Dk.Str} {pend : List Dk.Wr} (hok : Dk.Ok dur pend) : Dk.image (Dk.syncD dur pend) [] = Dk.image dur pend := by
  unfold Dk.image
  rw [Dk.syncD_length]
  refine List.map_congr_left fun p hp => ?_
  rw [← cont_syncD hok p (List.mem_range.1 hp)]
  rfl
theorem choice_zero (i : Nat) : Dk.choice [0] i = 0 := by simp [Dk.choice, Nat.mod_one]
theorem crash_zero : ∀ (P : List Dk.Wr) (i : Nat) (d : List Dk.Str), Dk.crashD [0] i P d = d := by
  intro P
  induction P with
  | nil => intro i d; rfl
  | cons x P ih => intro i d; rw [Dk.crashD, ih]; simp [Dk.put3, choice_zero]

theorem stepS_pend (S : Dk.Ds) (a : Ac) (h : ¬ a.kind % 3 = 0) : (stepS S a).pend = [] := by
  unfold stepS
  split
  · rfl
  · split
    · rfl
    · omega
def DurP (lo : Nat) (w0 : World) (B d n : Nat) (k : Nat) (dv i : Value) (wr : World) : Prop :=
  ∃ S A c A1 c1 A2 c2, i = .int .i64 k ∧ dv = .slice A (Dk.image S.dur []).length c ∧
    St lo w0 wr [diskR d S, refR (.agg #[.slice A1 S.dur.length c1, .slice A2 S.pend.length c2]) S.dur S.pend, cellsR B 32 #[.slice A1 S.dur.length c1, .slice A2 S.pend.length c2], rowR A c (Dk.image S.dur [])] ∧
    S.dur.length = n ∧ S.pend.length ≤ k ∧ S.recd.length ≤ k
set_option maxRecDepth 20000 in
set_option maxHeartbeats 4000000 in
theorem diskDurable_walk (q : Nat) (hq1 : q ≤ 255) (A : Option Addr) (L : List Ac) (c : Nat) (B : Option Addr) (cs : List Int) (cc : Nat) (w : World) (hR : Rd w A (acts L)) (hl : L.length ≤ 9223372036854775807) (hok : ∀ a ∈ L, AcOk w a)
    (hRc : Rd w B (ints cs)) (hcl : cs.length ≤ 9223372036854775807) :
    Calls Try.prog 4 #[.int .u8 q, .slice A L.length c, .slice B cs.length cc] w fun e w' => e = .returned (.bool true) ∧ Below w.heap.size w w' := by
  have HI := Lib.hid (And.intro hR (And.intro hok hRc))
  clear hR hok hRc
  have hc0 : (0 : Int) ≤ (cs.length : Int) := by omega
  go_enter Try.func4, Try.ntmps4
  go_wp2_with fail
  refine (awake_disk w).mono ?_
  rintro e w1 ⟨rfl, b1⟩
  have h1 := (St.nil w).under b1
  go_wp2_with fail
  refine (few_spec A L c w1 (HI.out.1.below b1) hl (fun a ha => (HI.out.2.1 a ha).below b1)).mono ?_
  rintro e w1' ⟨rfl, rfl⟩
  by_cases hf : few L = true
  · rw [hf]
    by_cases h20 : 20 < cs.length
    · have h20' : decide ((20 : Int) < (cs.length : Int)) = true := by simp; omega
      go_wp2
      go_ret
      exact ⟨rfl, b1⟩
    have h20' : decide ((20 : Int) < (cs.length : Int)) = false := by simp; omega
    go_wp2_with fail
    refine (s_start h1 q hq1).mono ?_
    rintro e w2 ⟨d, A1, c1, A2, c2, rfl, h2⟩
    clear h1 b1
    obtain ⟨n, hn⟩ : ∃ n, 1 + q % 12 = n := ⟨_, rfl⟩
    have hn12 : n ≤ 12 := by omega
    rw [hn] at h2 ⊢
    clear hn
    go_wp2_with fail
    have h3 := h2.alloc 32 #[.slice A1 n c1, .slice A2 0 c2]
    have hB : w2.heap.size < (w2.alloc (.cells #[.slice A1 n c1, .slice A2 0 c2] 32)).heap.size := by simp
    generalize w2.alloc (.cells #[.slice A1 n c1, .slice A2 0 c2] 32) = w3 at h3 hB ⊢
    generalize w2.heap.size = b at h3 hB ⊢
    clear h2
    refine (s_image h3.rot).mono ?_
    rintro e w4 ⟨A4, c4, rfl, h4⟩
    have h0 : DurP w.heap.size w b d n 0 (.slice A4 (Dk.image (blank n).dur (blank n).pend).length c4) (.int .i64 0) w4 :=
      ⟨blank n, A4, c4, A1, c1, A2, c2, rfl, rfl, by simpa [blank] using h4.rot, by simp [blank], by simp [blank], by simp [blank]⟩
    generalize (Dk.image (blank n).dur (blank n).pend).length = l4 at h0 ⊢
    clear h3 h4
    have hL40 := (few_at hf).2
    go_wp2
    go_loopw [9, 36] (fun dv i wr => ∃ k : Nat, k ≤ L.length ∧ DurP w.heap.size w b d n k dv i wr) (fun _ i _ => L.length - (intOf i).toNat)
    case atStart => exact ⟨0, Nat.zero_le _, h0⟩
    case round =>
      obtain ⟨k, hk, S, A5, c5, A6, c6, A7, c7, rfl, rfl, h, hSn, hSp, hSr⟩ := hrel
      have hS12 : S.dur.length ≤ 12 := by omega
      have HN := Lib.hid hSn
      clear h0 hSn
      by_cases hlt : k < L.length
      · obtain ⟨b0, off, rfl, hbl, hcc⟩ := rd_elem acc 5 (fun _ => rfl) (HI.out.1.below h.below) hlt (by omega)
        have hc0 := hcc 0 _ rfl
        have hc1 := hcc 1 _ rfl
        have hc2 := hcc 2 _ rfl
        have hc3 := hcc 3 _ rfl
        have hc4 := hcc 4 _ rfl
        have hoka := HI.out.2.1 _ (List.getElem_mem hlt)
        have hfa := (few_at hf).1 _ (List.getElem_mem hlt)
        obtain ⟨a, ha⟩ : ∃ a, L[k] = a := ⟨_, rfl⟩
        rw [ha] at hc0 hc1 hc2 hc3 hc4 hoka hfa
        simp only [Nat.add_zero] at hc0
        have hk1 : (k : Int) < (L.length : Int) := by omega
        have hk0 : (0 : Int) ≤ (k : Int) := by omega
        have hm3 : a.kind.tmod 3 = a.kind % 3 := Int.tmod_eq_emod_of_nonneg hoka.2.2.2.2.1
        have HK := Lib.hid hoka
        clear hoka ha hcc
        have bB := (h.front 2 (by simp)).blk
        have kB0 := bB.cell 0
        have kB1 := bB.cell 1
        have lB := bB.lt
        simp at kB0 kB1
        clear bB
        by_cases hz : a.kind % 3 = 0
        · rw [hz] at hm3
          have hst : stepS S a = Dk.write S a.op.page a.op.data := by unfold stepS; rw [if_neg (by rw [hz]; decide), if_neg (by rw [hz]; decide)]
          obtain ⟨t1, t2, t3⟩ := stepS_len S a
          have t4 : (stepS S a).dur = S.dur := by rw [hst]; exact (write_dp S _ _).1
          have HT := Lib.hid (And.intro (t1.trans HN.out) t4)
          clear t1 t4 hst
          go_wp2_with fail
          have h5 := (h.alloc 41 #[.int .u8 a.kind, .int .i64 a.op.page, .string ⟨a.op.data.toArray⟩, .bool a.op.sync, .slice a.A a.cs.length a.c]).rot
          have kdo := s_do a h5 (by omega) (by omega) HK.out rfl
          unfold acV at kdo
          with_reducible refine kdo.mono ?_
          clear kdo
          rintro e w5 ⟨A8, c8, A9, c9, rfl, h6⟩
          clear h h5
          generalize stepS S a = T at h6 HT t2 t3 ⊢
          have bb := (h6.front 2 (by simp)).blk
          have ba := (h6.front 4 (by simp)).blk
          have kA := ba.cell 0
          have fb := fun i => bb.frozen i
          have lb := bb.lt
          have kb0 := bb.cell 0
          have kb1 := bb.cell 1
          simp at kA kb0 kb1
          clear bb ba
          go_wp2
          go_roundw
          case rel =>
            refine ⟨k + 1, by omega, T, A5, c5, A8, c8, A9, c9, by go_num, by rw [HT.out.2], ?_, HT.out.1, by omega, by omega⟩
            rw [show Dk.image T.dur [] = Dk.image S.dur [] from by rw [HT.out.2]]
            exact (((h6.front 2 (by simp)).set_ 0 (.slice A8 T.dur.length c8)).set_ 1 (.slice A9 T.pend.length c9)).pick [1, 2, 0, 3] (by decide) (by simp)
          case measure => simp [intOf]; omega
        · have hmz : (a.kind.tmod 3 == 0) = false := by rw [hm3, beq_eq_false_iff_ne]; exact hz
          obtain ⟨m, hm⟩ : ∃ m, a.kind.tmod 3 = m := ⟨_, rfl⟩
          rw [hm] at hmz
          have HM := Lib.hid (And.intro hm (And.intro hm3 hz))
          clear hm3 hz
          obtain ⟨t1, t2, t3⟩ := stepS_len S a
          have HT := Lib.hid t1
          clear t1
          have hcr : Dk.image (Dk.crash (Dk.clone S) [1]).dur (Dk.crash (Dk.clone S) [1]).pend = Dk.image S.dur S.pend := by
            obtain ⟨F, hD⟩ := h.disk
            show Dk.image (Dk.crashD [1] 0 S.pend S.dur) [] = _
            rw [Dk.crash_one, image_sync hD.ok]
          have hcz : Dk.image (Dk.crash (Dk.clone S) [0]).dur (Dk.crash (Dk.clone S) [0]).pend = Dk.image S.dur [] := by
            show Dk.image (Dk.crashD [0] 0 S.pend S.dur) [] = _
            rw [crash_zero]
          have HC := Lib.hid (And.intro hcr hcz)
          clear hcr hcz
          go_wp2_with fail
          have h5 := (h.alloc 41 #[.int .u8 a.kind, .int .i64 a.op.page, .string ⟨a.op.data.toArray⟩, .bool a.op.sync, .slice a.A a.cs.length a.c]).rot
          generalize wr.alloc (.cells #[.int .u8 a.kind, .int .i64 a.op.page, .string ⟨a.op.data.toArray⟩, .bool a.op.sync, .slice a.A a.cs.length a.c] 41) = W1 at h5 ⊢
          refine (s_clone h5 (by omega)).mono ?_
          rintro e w6 ⟨x, rfl, h6⟩
          clear h5 h
          go_wp2_with fail
          refine (s_clone h6.swap (by omega)).mono ?_
          rintro e w7 ⟨y, rfl, h7⟩
          clear h6
          go_wp2_with fail
          have h8 := (h7.alloc 3 #[.int .i64 1]).pick [3, 0, 1, 2, 4, 5, 6, 7] (by decide) (by simp)
          refine (s_crash1 1 h8 (by show S.pend.length ≤ _; omega)).mono ?_
          rintro e w8 ⟨rfl, h9⟩
          clear h7 h8
          go_wp2_with fail
          have h10 := (h9.alloc 3 #[.int .i64 0]).pick [2, 0, 1, 3, 4, 5, 6, 7] (by decide) (by simp)
          refine (s_crash1 0 h10 (by show S.pend.length ≤ _; omega)).mono ?_
          rintro e w9 ⟨rfl, h11⟩
          clear h9 h10
          go_wp2_with fail
          refine (s_image (h11.front 1 (by simp))).mono ?_
          rintro e w10 ⟨Ax, cx, rfl, h12⟩
          rw [HC.out.1] at h12 ⊢
          clear h11
          go_wp2_with fail
          refine (s_image (h12.front 3 (by simp))).mono ?_
          rintro e w11 ⟨Ad, cd, rfl, h13⟩
          clear h12
          go_wp2_with fail
          refine (equal_spec Ax Ad (Dk.image S.dur S.pend) (Dk.image S.dur S.pend) cx cd w11 (h13.front 2 (by simp)).row h13.row (by rw [image_length]; omega) (by rw [image_length]; omega)).mono ?_
          rintro e w12 ⟨rfl, n12, rfl⟩
          rw [decide_eq_true (rfl : Dk.image S.dur S.pend = Dk.image S.dur S.pend)]
          have h14 := h13.drewN n12
          generalize w11.drewN n12 = w12 at h14 ⊢
          clear h13
          go_wp2_with fail
          refine (s_image (h14.front 4 (by simp))).mono ?_
          rintro e w13 ⟨Ay, cy, rfl, h15⟩
          rw [HC.out.2] at h15 ⊢
          clear h14
          go_wp2_with fail
          refine (equal_spec Ay A5 (Dk.image S.dur []) (Dk.image S.dur []) cy c5 w13 h15.row (h15.front 8 (by simp)).row (by rw [image_length]; omega) (by rw [image_length]; omega)).mono ?_
          rintro e w14 ⟨rfl, n14, rfl⟩
          rw [decide_eq_true (rfl : Dk.image S.dur [] = Dk.image S.dur [])]
          have h16 := (h15.drewN n14).pick [3, 6, 7, 8, 9] (by decide) (by simp)
          replace h16 : St w.heap.size w (w13.drewN n14) [diskR d S, refR (.agg #[.slice A6 S.dur.length c6, .slice A7 S.pend.length c7]) S.dur S.pend, cellsR b 32 #[.slice A6 S.dur.length c6, .slice A7 S.pend.length c7], rowR A5 c5 (Dk.image S.dur []), cellsR wr.heap.size 41 #[.int .u8 a.kind, .int .i64 a.op.page, .string ⟨a.op.data.toArray⟩, .bool a.op.sync, .slice a.A a.cs.length a.c]] := h16
          generalize w13.drewN n14 = w14 at h16 ⊢
          clear h15
          have bb := (h16.front 2 (by simp)).blk
          have ba := (h16.front 4 (by simp)).blk
          have ka0 := ba.cell 0
          have ka1 := ba.cell 1
          have ka2 := ba.cell 2
          have ka3 := ba.cell 3
          have ka4 := ba.cell 4
          have kb0 := bb.cell 0
          have kb1 := bb.cell 1
          have lb := bb.lt
          have la := ba.lt
          simp at ka0 ka1 ka2 ka3 ka4 kb0 kb1
          clear bb ba
          go_wp2_with fail
          have kdo := s_do a h16 (by omega) (by omega) HK.out rfl
          unfold acV at kdo
          with_reducible refine kdo.mono ?_
          clear kdo
          rintro e w5 ⟨A8, c8, A9, c9, rfl, h6⟩
          have HP := Lib.hid (stepS_pend S a HM.out.2.2)
          clear h16 ka0 ka1 ka2 ka3 ka4 kb0 kb1 lb la
          generalize stepS S a = T at h6 HT HP t2 t3 ⊢
          have bb := (h6.front 2 (by simp)).blk
          have ba := (h6.front 4 (by simp)).blk
          have kA := ba.cell 0
          have fb := fun i => bb.frozen i
          have lb := bb.lt
          have kb0 := bb.cell 0
          have kb1 := bb.cell 1
          simp at kA kb0 kb1
          clear bb ba
          have hmm := HM.out.1
          go_wp2_with fail
          have h17 := (((h6.front 2 (by simp)).set_ 0 (.slice A8 T.dur.length c8)).set_ 1 (.slice A9 T.pend.length c9)).pick [1, 2, 0] (by decide) (by simp)
          clear h6
          refine (s_image h17).mono ?_
          rintro e w15 ⟨Az, cz, rfl, h18⟩
          clear h17
          have hTp : Dk.image T.dur T.pend = Dk.image T.dur [] := by rw [HP.out]
          rw [hTp] at h18 ⊢
          clear hTp
          go_wp2
          go_roundw
          case rel => exact ⟨k + 1, by omega, T, Az, cz, A8, c8, A9, c9, by go_num, rfl, h18.pick [1, 2, 3, 0] (by decide) (by simp), HT.out.trans HN.out, by omega, by omega⟩
          case measure => simp [intOf]; omega
      · obtain rfl : k = L.length := by omega
        go_wp2_with fail
        refine (s_sync h (by omega) (by omega)).mono ?_
        rintro e w5 ⟨rfl, h5⟩
        clear h
        go_wp2_with fail
        refine (s_image h5).mono ?_
        rintro e w6 ⟨Ax, cx, rfl, h6⟩
        clear h5
        go_wp2_with fail
        refine (s_crash h6.swap B cs cc (HI.out.2.2.below h6.below) hcl (fun hc p hp => by
          obtain ⟨q, hq, hl⟩ := HI.out.2.2.lt (fun h => hc (by have := congrArg List.length h; rw [ints_length] at this; exact List.eq_nil_of_length_eq_zero this))
          rw [hp] at hq; injection hq with hq; subst hq; exact hl) (by show 0 ≤ _; omega)).mono ?_
        rintro e w7 ⟨rfl, h7⟩
        clear h6
        have he : Dk.crash (Dk.sync S) cs = Dk.sync S := rfl
        rw [he] at h7
        go_wp2_with fail
        refine (s_image h7).mono ?_
        rintro e w8 ⟨Ay, cy, rfl, h8⟩
        clear h7
        have hil : (Dk.image (Dk.sync S).dur (Dk.sync S).pend).length ≤ 12 := by rw [image_length]; show (Dk.syncD _ _).length ≤ _; rw [Dk.syncD_length]; exact hS12
        obtain ⟨I, hI⟩ : ∃ I, Dk.image (Dk.sync S).dur (Dk.sync S).pend = I := ⟨_, rfl⟩
        rw [hI] at h8 hil ⊢
        go_wp2_with fail
        refine (equal_spec Ay Ax I I cy cx w8 h8.row (h8.front 2 (by simp)).row (by omega) (by omega)).mono ?_
        rintro e w9 ⟨rfl, n9, rfl⟩
        rw [decide_eq_true (rfl : I = I)]
        have h9 := h8.drewN n9
        generalize w8.drewN n9 = w9 at h9 ⊢
        clear h8
        go_wp2_with fail
        refine (s_pending (h9.front 1 (by simp))).mono ?_
        rintro e w9' ⟨rfl, rfl⟩
        have hp0 : (Dk.sync S).pend.length = 0 := rfl
        rw [hp0]
        go_wp2
        go_ret
        exact ⟨rfl, h9.below⟩
  · rw [Bool.not_eq_true] at hf
    rw [hf]
    go_wp2
    go_ret
    exact ⟨rfl, b1⟩
end Go.Proofs.Ytepdfeegklinfaa
