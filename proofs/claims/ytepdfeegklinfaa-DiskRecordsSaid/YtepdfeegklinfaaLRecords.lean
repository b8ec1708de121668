/-
  DiskRecords: the walk. Conditions: none.
-/
import Derived.Test.YtepdfeegklinfaaLExecutes
namespace Go.Proofs.Ytepdfeegklinfaa
set_option linter.unusedVariables false
open Go.RowKit Go.ChangeMaps Go.MapKept

theorem execS_cons (S : Dk.Ds) (x : Dk.Op) (L : List Dk.Op) : execS S (x :: L) = if x.sync then execS (Dk.sync S) L else if Dk.wErr S.dur x.page x.data = 0 then execS (Dk.write S x.page x.data) L else (S, Dk.wErr S.dur x.page x.data) := rfl
theorem execS_snoc : ∀ (L : List Dk.Op) (S : Dk.Ds) (o : Dk.Op), (execS S L).2 = 0 → execS S (L ++ [o]) = execS (execS S L).1 [o]
  | [], S, o, _ => rfl
  | x :: L, S, o, h => by
    rw [execS_cons] at h
    rw [List.cons_append, execS_cons S x (L ++ [o]), execS_cons S x L]
    by_cases hs : x.sync = true
    · rw [if_pos hs] at h
      rw [if_pos hs, if_pos hs]
      exact execS_snoc L _ o h
    · rw [if_neg hs] at h
      rw [if_neg hs, if_neg hs]
      by_cases he : Dk.wErr S.dur x.page x.data = 0
      · rw [if_pos he] at h
        rw [if_pos he, if_pos he]
        exact execS_snoc L _ o h
      · rw [if_neg he] at h
        exact absurd h he
/-- what is recorded, executed on the disk before, gives the same disk -/
structure RecInv (C T : Dk.Ds) (cnt : Nat) : Prop where
  rc : T.rc = true
  len : T.recd.length = cnt
  err : (execS C T.recd).2 = 0
  dur : (execS C T.recd).1.dur = T.dur
  pend : (execS C T.recd).1.pend = T.pend
  data : ∀ o ∈ T.recd, o.data.length ≤ 9223372036854775807
theorem RecInv.sync {C T : Dk.Ds} {cnt : Nat} (h : RecInv C T cnt) : RecInv C (Dk.sync T) (cnt + 1) := by
  have hr : (Dk.sync T).recd = T.recd ++ [⟨0, [], true⟩] := by show Dk.note T _ = _; unfold Dk.note; rw [h.rc]; rfl
  have he := execS_snoc T.recd C ⟨0, [], true⟩ h.err
  rw [← hr] at he
  refine ⟨h.rc, by rw [hr]; simp [h.len], ?_, ?_, ?_, ?_⟩
  · rw [he]; rfl
  · rw [he]
    show Dk.syncD _ _ = Dk.syncD _ _
    rw [h.dur, h.pend]
  · rw [he]; rfl
  · intro o ho
    rw [hr] at ho
    rcases List.mem_append.1 ho with ho | ho
    · exact h.data o ho
    · simp at ho; subst ho; simp
theorem RecInv.write {C T : Dk.Ds} {cnt : Nat} (h : RecInv C T cnt) (p : Int) (x : Dk.Str) (hx : x.length ≤ 9223372036854775807) (hz : Dk.wErr T.dur p x = 0) : RecInv C (Dk.write T p x) (cnt + 1) := by
  have hr : (Dk.write T p x).recd = T.recd ++ [⟨p, x, false⟩] := by unfold Dk.write; rw [if_pos hz]; show Dk.note T _ = _; unfold Dk.note; rw [h.rc]; rfl
  have he := execS_snoc T.recd C ⟨p, x, false⟩ h.err
  rw [← hr] at he
  have hz' : Dk.wErr (execS C T.recd).1.dur p x = 0 := by rw [h.dur]; exact hz
  have he2 : execS (execS C T.recd).1 [⟨p, x, false⟩] = (Dk.write (execS C T.recd).1 p x, 0) := by simp [execS, hz']
  rw [he2] at he
  refine ⟨by unfold Dk.write; rw [if_pos hz]; exact h.rc, by rw [hr]; simp [h.len], by rw [he], ?_, ?_, ?_⟩
  · rw [he, (write_dp _ _ _).1, (write_dp _ _ _).1, h.dur]
  · rw [he, (write_dp _ _ _).2, (write_dp _ _ _).2, h.dur, h.pend]
  · intro o ho
    rw [hr] at ho
    rcases List.mem_append.1 ho with ho | ho
    · exact h.data o ho
    · simp at ho; subst ho; exact hx

set_option maxRecDepth 20000 in
set_option maxHeartbeats 4000000 in
theorem diskRecords_walk (q : Nat) (hq1 : q ≤ 255) (A : Option Addr) (L : List Ac) (c : Nat) (A' : Option Addr) (M : List Ac) (c' : Nat) (w : World) (hR : Rd w A (acts L)) (hl : L.length ≤ 9223372036854775807) (hok : ∀ a ∈ L, AcOk w a)
    (hR' : Rd w A' (acts M)) (hl' : M.length ≤ 9223372036854775807) (hok' : ∀ a ∈ M, AcOk w a) :
    Calls Try.prog 8 #[.int .u8 q, .slice A L.length c, .slice A' M.length c'] w fun e w' => e = .returned (.bool true) ∧ Below w.heap.size w w' := by
  have HI := Lib.hid (And.intro hR (And.intro hok (And.intro hR' hok')))
  clear hR hok hR' hok'
  go_enter Try.func8, Try.ntmps8
  go_wp2_with fail
  refine (awake_disk w).mono ?_
  rintro e w1 ⟨rfl, b1⟩
  have h1 := (St.nil w).under b1
  go_wp2_with fail
  refine (few_spec A L c w1 (HI.out.1.below b1) hl (fun a ha => (HI.out.2.1 a ha).below b1)).mono ?_
  rintro e w1' ⟨rfl, rfl⟩
  by_cases hf : few L = true
  · rw [hf]
    go_wp2_with fail
    refine (few_spec A' M c' w1 (HI.out.2.2.1.below b1) hl' (fun a ha => (HI.out.2.2.2 a ha).below b1)).mono ?_
    rintro e w1' ⟨rfl, rfl⟩
    by_cases hg : few M = true
    · rw [hg]
      go_wp2_with fail
      refine (s_start h1 q hq1).mono ?_
      rintro e w2 ⟨d, A1, c1, A2, c2, rfl, h2⟩
      clear h1 b1
      obtain ⟨n, hn⟩ : ∃ n, 1 + q % 12 = n := ⟨_, rfl⟩
      have hn12 : n ≤ 12 := by omega
      have hn1 : 1 ≤ n := by omega
      rw [hn] at h2 ⊢
      clear hn
      go_wp2_with fail
      have h3 := (h2.alloc 32 #[.slice A1 n c1, .slice A2 0 c2]).rot
      generalize w2.alloc (.cells #[.slice A1 n c1, .slice A2 0 c2] 32) = w3 at h3 ⊢
      generalize w2.heap.size = b at h3 ⊢
      clear h2
      have h0 : DoS w.heap.size w b d n 0 [] (blank n) w3 := ⟨A1, c1, A2, c2, by simpa [blank] using h3, by simp [blank], by simp [blank], by simp [blank]⟩
      clear h3
      have hL40 := (few_at hf).2
      have hM40 := (few_at hg).2
      go_wp2
      go_loopw [35] (fun i wr => ∃ (k : Nat) (S : Dk.Ds), k ≤ L.length ∧ i = .int .i64 k ∧ DoS w.heap.size w b d n k [] S wr) (fun i _ => L.length - (intOf i).toNat)
      case atStart => exact ⟨0, _, Nat.zero_le _, rfl, h0⟩
      case round =>
        clear h0
        obtain ⟨k, S, hk, rfl, A6, c6, A7, c7, h, hSn, hSp, hSr⟩ := hrel
        have HN := Lib.hid hSn
        have hS12 : S.dur.length ≤ 12 := by omega
        clear hSn
        by_cases hlt : k < L.length
        · obtain ⟨b0, off, rfl, hbl, hcc⟩ := rd_elem acc 5 (fun _ => rfl) (HI.out.1.below h.below) hlt (by omega)
          have hc0 := hcc 0 _ rfl
          have hc1 := hcc 1 _ rfl
          have hc2 := hcc 2 _ rfl
          have hc3 := hcc 3 _ rfl
          have hc4 := hcc 4 _ rfl
          have hoka := HI.out.2.1 _ (List.getElem_mem hlt)
          have hfa := (few_at hf).1 _ (List.getElem_mem hlt)
          obtain ⟨a, ha⟩ : ∃ a, L[k] = a := ⟨_, rfl⟩
          rw [ha] at hc0 hc1 hc2 hc3 hc4 hoka hfa
          simp only [Nat.add_zero] at hc0
          have hk1 : (k : Int) < (L.length : Int) := by omega
          have hk0 : (0 : Int) ≤ (k : Int) := by omega
          have HK := Lib.hid hoka
          clear hoka ha hcc
          have bB := (h.front 2 (by simp)).blk
          have kB0 := bB.cell 0
          have kB1 := bB.cell 1
          have lB := bB.lt
          simp at kB0 kB1
          clear bB
          obtain ⟨t1, t2, t3⟩ := stepS_len S a
          have HT := Lib.hid t1
          clear t1
          go_wp2_with fail
          have h5 := (h.alloc 41 #[.int .u8 a.kind, .int .i64 a.op.page, .string ⟨a.op.data.toArray⟩, .bool a.op.sync, .slice a.A a.cs.length a.c]).rot
          have kdo := s_do a h5 (by omega) (by omega) HK.out rfl
          unfold acV at kdo
          with_reducible refine kdo.mono ?_
          clear kdo kB0 kB1 lB
          rintro e w5 ⟨A8, c8, A9, c9, rfl, h6⟩
          clear h h5
          generalize stepS S a = T at h6 HT t2 t3 ⊢
          have bb := (h6.front 2 (by simp)).blk
          have fb := fun i => bb.frozen i
          have lb := bb.lt
          have kb0 := bb.cell 0
          have kb1 := bb.cell 1
          simp at kb0 kb1
          clear bb
          go_wp2
          go_roundw
          case rel => exact ⟨k + 1, T, by omega, by go_num, A8, c8, A9, c9, (((h6.front 2 (by simp)).set_ 0 (.slice A8 T.dur.length c8)).set_ 1 (.slice A9 T.pend.length c9)).pick [1, 2, 0] (by decide) (by simp), HT.out.trans HN.out, by omega, by omega⟩
          case measure => simp [intOf]; omega
        · obtain rfl : k = L.length := by omega
          go_wp2_with fail
          refine (s_clone h (by omega)).mono ?_
          rintro e w4 ⟨x, rfl, h4⟩
          clear h
          go_wp2_with fail
          refine (s_record h4.swap true).mono ?_
          rintro e w5 ⟨A3, c3, rfl, h5⟩
          clear h4
          have h6 : St w.heap.size w w5 [diskR d { S with rc := true, recd := [] }, diskR x (Dk.clone S)] := h5.pick [0, 2] (by decide) (by simp)
          have hinv : RecInv (Dk.clone S) { S with rc := true, recd := [] } 0 := ⟨rfl, rfl, rfl, rfl, rfl, fun o ho => by cases ho⟩
          have hp0 : S.pend.length ≤ 40 := by omega
          have h7 : ∃ T : Dk.Ds, St w.heap.size w w5 [diskR d T, diskR x (Dk.clone S)] ∧ RecInv (Dk.clone S) T 0 ∧ T.pend.length ≤ 40 ∧ T.recd.length ≤ 0 := ⟨_, h6, hinv, hp0, Nat.le_refl _⟩
          have hcp : (Dk.clone S).pend.length ≤ 40 := hp0
          have hcd : (Dk.clone S).dur.length ≤ 12 := hS12
          have hcr : (Dk.clone S).recd.length = 0 := rfl
          generalize Dk.clone S = C at h7 hcp hcd hcr ⊢
          have HCr := Lib.hid hcr
          clear h5 h6 hinv hp0 hcr hSp hSr HN hS12
          go_wp2
          go_loopw [12, 55] (fun cv i wr => ∃ (k cnt : Nat) (T : Dk.Ds), k ≤ M.length ∧ i = .int .i64 k ∧ cv = .int .i64 cnt ∧ cnt ≤ k ∧ St w.heap.size w wr [diskR d T, diskR x C] ∧ RecInv C T cnt ∧ T.pend.length ≤ 40 + k ∧ T.recd.length ≤ k) (fun _ i _ => M.length - (intOf i).toNat)
          case atStart =>
            obtain ⟨T, h7, h8, h9, h10⟩ := h7
            exact ⟨0, 0, T, Nat.zero_le _, rfl, rfl, Nat.le_refl _, h7, h8, h9, h10⟩
          case round =>
            clear h7 hlt
            obtain ⟨k, cnt, T, hk, rfl, rfl, hcnt, h, hinv, hp, hr⟩ := hrel
            by_cases hlt : k < M.length
            · obtain ⟨b0, off, rfl, hbl, hcc⟩ := rd_elem acc 5 (fun _ => rfl) (HI.out.2.2.1.below h.below) hlt (by omega)
              have hc0 := hcc 0 _ rfl
              have hc1 := hcc 1 _ rfl
              have hc2 := hcc 2 _ rfl
              have hc3 := hcc 3 _ rfl
              have hc4 := hcc 4 _ rfl
              have hoka := HI.out.2.2.2 _ (List.getElem_mem hlt)
              have hfa := (few_at hg).1 _ (List.getElem_mem hlt)
              obtain ⟨a, ha⟩ : ∃ a, M[k] = a := ⟨_, rfl⟩
              rw [ha] at hc0 hc1 hc2 hc3 hc4 hoka hfa
              simp only [Nat.add_zero] at hc0
              have hk1 : (k : Int) < (M.length : Int) := by omega
              have hk0 : (0 : Int) ≤ (k : Int) := by omega
              have HK := Lib.hid hoka
              clear hoka ha hcc
              have hm3 : a.kind.tmod 3 = a.kind % 3 := Int.tmod_eq_emod_of_nonneg HK.out.2.2.2.2.1
              obtain ⟨m, hm⟩ : ∃ m, a.kind % 3 = m := ⟨_, rfl⟩
              rw [hm] at hm3
              have HV := Lib.hid hinv
              clear hinv hm
              by_cases e1 : m = 1
              · subst e1
                go_wp2
                go_roundw
                case rel => exact ⟨k + 1, cnt, T, by omega, by go_num, rfl, by omega, h.alloc0 _, HV.out, by omega, by omega⟩
                case measure => simp [intOf]; omega
              · have e1' : (m == 1) = false := by rw [beq_eq_false_iff_ne]; exact e1
                by_cases e2 : m = 2
                · subst e2
                  obtain ⟨z1, z2, z3⟩ := sync_len T
                  have HZ := Lib.hid z2
                  clear z1 z2 e1
                  go_wp2_with fail
                  refine (s_sync (h.alloc0 _) (by omega) (by omega)).mono ?_
                  rintro e w6 ⟨rfl, h6⟩
                  go_wp2
                  go_roundw
                  case rel => exact ⟨k + 1, cnt + 1, _, by omega, by go_num, by go_num, by omega, h6, HV.out.sync, by have := HZ.out; omega, by omega⟩
                  case measure => simp [intOf]; omega
                · have e2' : (m == 2) = false := by rw [beq_eq_false_iff_ne]; exact e2
                  obtain ⟨z1, z2, z3⟩ := write_len T a.op.page a.op.data
                  have hxl : a.op.data.length ≤ 9223372036854775807 := by omega
                  clear z1 e1 e2
                  go_wp2_with fail
                  refine (s_write (h.alloc0 _) a.op.page a.op.data (by omega) (by omega) hxl).mono ?_
                  rintro e w6 ⟨rfl, h6⟩
                  rcases wErr_cases T.dur a.op.page a.op.data with hz | hz
                  · have HW := Lib.hid (HV.out.write a.op.page a.op.data hxl hz)
                    rw [hz]
                    clear hz
                    go_wp2
                    go_roundw
                    case rel => exact ⟨k + 1, cnt + 1, _, by omega, by go_num, by go_num, by omega, h6, HW.out, by omega, by omega⟩
                    case measure => simp [intOf]; omega
                  · have hne : ¬ Dk.wErr T.dur a.op.page a.op.data = 0 := by rw [beq_eq_false_iff_ne] at hz; exact hz
                    have hsame : Dk.write T a.op.page a.op.data = T := by unfold Dk.write; rw [if_neg hne]
                    rw [hsame] at h6
                    clear hsame hne
                    generalize Dk.wErr T.dur a.op.page a.op.data = er at hz ⊢
                    go_wp2
                    go_roundw
                    case rel => exact ⟨k + 1, cnt, T, by omega, by go_num, rfl, by omega, h6, HV.out, by omega, by omega⟩
                    case measure => simp [intOf]; omega
            · obtain rfl : k = M.length := by omega
              have HV := Lib.hid hinv
              clear hinv
              go_wp2_with fail
              refine (s_record h false).mono ?_
              rintro e w6 ⟨A6, c6, rfl, h6⟩
              clear h
              rw [HV.out.len] at h6 ⊢
              go_wp2_with fail
              refine (s_record h6 false).mono ?_
              rintro e w7 ⟨A7, c7, rfl, h7⟩
              clear h6
              have h8 := h7.pick [3, 0, 2] (by decide) (by simp)
              clear h7
              have hr0 : ({ T with rc := false, recd := [] } : Dk.Ds).recd.length = 0 := rfl
              rw [hr0]
              clear hr0
              replace h8 : St w.heap.size w w7 (diskR x C :: diskR d { T with rc := false, recd := [] } :: ownR 38 3 (.slice A6 cnt c6) cnt (ops T.recd) :: []) := h8
              go_wp2_with fail
              have kx := s_execute A6 T.recd c6 h8 (fun {w' S'} hq => Rd.of_own (h := (hq.front 2 (by simp)).own)) (by omega) HV.out.data (by rw [HCr.out]; decide) (by omega)
              rw [HV.out.len, HV.out.err] at kx
              refine kx.mono ?_
              rintro e w8 ⟨rfl, h9⟩
              clear h8 kx
              go_wp2_with fail
              refine (s_image h9).mono ?_
              rintro e w9 ⟨A9, c9, rfl, h10⟩
              clear h9
              rw [HV.out.dur, HV.out.pend] at h10 ⊢
              go_wp2_with fail
              refine (s_image (h10.front 2 (by simp))).mono ?_
              rintro e w10 ⟨A10, c10, rfl, h11⟩
              clear h10
              obtain ⟨v1, v2, v3⟩ := execS_len T.recd C
              have hil : (Dk.image T.dur T.pend).length ≤ 12 := by rw [image_length, ← HV.out.dur, v1]; exact hcd
              generalize Dk.image T.dur T.pend = I at h11 hil ⊢
              go_wp2_with fail
              refine (equal_spec A9 A10 I I c9 c10 w10 (h11.front 2 (by simp)).row h11.row (by omega) (by omega)).mono ?_
              rintro e w11 ⟨rfl, n11, rfl⟩
              rw [decide_eq_true (rfl : I = I)]
              have h12 := h11.drewN n11
              generalize w10.drewN n11 = w11 at h12 ⊢
              clear h11
              go_wp2_with fail
              refine (s_pending (h12.front 3 (by simp))).mono ?_
              rintro e w11' ⟨rfl, rfl⟩
              rw [HV.out.pend]
              go_wp2_with fail
              refine (s_pending (h12.front 1 (by simp))).mono ?_
              rintro e w11' ⟨rfl, rfl⟩
              go_wp2
              go_ret
              exact ⟨rfl, h12.below⟩
    · rw [Bool.not_eq_true] at hg
      rw [hg]
      go_wp2
      go_ret
      exact ⟨rfl, b1⟩
  · rw [Bool.not_eq_true] at hf
    rw [hf]
    go_wp2
    go_ret
    exact ⟨rfl, b1⟩
end Go.Proofs.Ytepdfeegklinfaa
