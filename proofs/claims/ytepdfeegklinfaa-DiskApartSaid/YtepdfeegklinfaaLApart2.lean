/-
  DiskApart: the walk. Conditions: none.
-/
import Derived.Test.YtepdfeegklinfaaDkSep
namespace Go.Proofs.Ytepdfeegklinfaa
set_option linter.unusedVariables false
open Go.RowKit Go.ChangeMaps Go.MapKept

theorem crashD_upto {cs cs' : List Int} : ∀ (P : List Dk.Wr) (i : Nat) (d : List Dk.Str), (∀ k, k < P.length → Dk.choice cs' (i + k) = Dk.choice cs (i + k)) → Dk.crashD cs' i P d = Dk.crashD cs i P d := by
  intro P
  induction P with
  | nil => intro i d _; rfl
  | cons x P ih =>
    intro i d h
    rw [Dk.crashD, Dk.crashD, show Dk.choice cs' i = Dk.choice cs i from h 0 (by simp)]
    exact ih (i + 1) _ (fun k hk => by have := h (k + 1) (by simpa using hk); rwa [show i + (k + 1) = i + 1 + k by omega] at this)
theorem choice_old (own : List Int) (c : Int) (j : Nat) (hj : j < own.length) : Dk.choice (own ++ [c]) j = Dk.choice own j := by
  unfold Dk.choice
  rw [if_neg (by simp), if_neg (by omega), Nat.mod_eq_of_lt (by simp; omega), Nat.mod_eq_of_lt hj]
  simp [hj, List.getElem?_append_left]
theorem choice_new (own : List Int) (c : Int) : Dk.choice (own ++ [c]) own.length = c % 3 := by
  unfold Dk.choice
  rw [if_neg (by simp), Nat.mod_eq_of_lt (by simp)]
  simp
theorem getD_put3 (c : Int) (d d' : List Dk.Str) (x : Dk.Wr) (p : Nat) (h : d.getD p [] = d'.getD p []) (hl : d.length = d'.length) : (Dk.put3 c d x).getD p [] = (Dk.put3 c d' x).getD p [] := by
  unfold Dk.put3
  simp only [List.getD_eq_getElem?_getD] at h ⊢
  split
  · by_cases e : x.1 = p
    · subst e; simp only [List.getElem?_set, if_true, hl]
    · rw [List.getElem?_set_ne e, List.getElem?_set_ne e, h]
  · split
    · by_cases e : x.1 = p
      · subst e; simp only [List.getElem?_set, if_true, hl]
      · rw [List.getElem?_set_ne e, List.getElem?_set_ne e, h]
    · exact h
theorem getD_put3_ne (c : Int) (d : List Dk.Str) (x : Dk.Wr) (p : Nat) (e : x.1 ≠ p) : (Dk.put3 c d x).getD p [] = d.getD p [] := by
  unfold Dk.put3
  simp only [List.getD_eq_getElem?_getD]
  split
  · rw [List.getElem?_set_ne e]
  · split
    · rw [List.getElem?_set_ne e]
    · rfl
/-- the choice of write i, as it stands -/
def raw (cs : List Int) (i : Nat) : Int := if cs.length = 0 then 0 else cs.getD (i % cs.length) 0
theorem choice_raw (cs : List Int) (i : Nat) : Dk.choice cs i = raw cs i % 3 := by
  unfold Dk.choice raw
  split <;> rfl
/-- two disks, one with the writes to page p alone -/
structure ApInv (n : Nat) (cs own : List Int) (p : Nat) (S E : Dk.Ds) (cnt k : Nat) : Prop where
  sn : S.dur.length = n
  en : E.dur.length = n
  len : own.length = E.pend.length
  cnt : S.pend.length = cnt
  same : (Dk.crashD cs 0 S.pend S.dur).getD p [] = (Dk.crashD own 0 E.pend E.dur).getD p []
  b1 : S.pend.length ≤ k
  b2 : S.recd.length ≤ k
  b3 : E.pend.length ≤ k
  b4 : E.recd.length ≤ k
theorem write_yes (S : Dk.Ds) (p : Nat) (x : Dk.Str) (hp : p < S.dur.length) (hx : x.length = 512) : Dk.wErr S.dur p x = 0 ∧ (Dk.write S p x).pend = S.pend ++ [(p, x)] ∧ (Dk.write S p x).dur = S.dur ∧ (Dk.write S p x).recd.length ≤ S.recd.length + 1 := by
  have he : Dk.wErr S.dur p x = 0 := by unfold Dk.wErr; rw [if_neg (by omega), if_pos hx]
  refine ⟨he, ?_, (write_dp S p x).1, (write_len S p x).2.2⟩
  rw [(write_dp S p x).2]
  unfold Dk.wPend
  rw [if_pos he]
  rfl
theorem ApInv.other {n : Nat} {cs own : List Int} {p : Nat} {S E : Dk.Ds} {cnt k : Nat} (h : ApInv n cs own p S E cnt k) (q : Nat) (x : Dk.Str) (hq : q < n) (hx : x.length = 512) (hne : q ≠ p) : ApInv n cs own p (Dk.write S q x) E (cnt + 1) (k + 1) := by
  obtain ⟨e1, e2, e3, e4⟩ := write_yes S q x (by rw [h.sn]; exact hq) hx
  have b1 := h.b1
  have b2 := h.b2
  have b3 := h.b3
  have b4 := h.b4
  refine ⟨by rw [e3]; exact h.sn, h.en, h.len, by rw [e2, List.length_append, h.cnt]; rfl, ?_, by rw [e2]; simp; omega, by omega, by omega, by omega⟩
  rw [e2, e3, Dk.crashD_snoc, Nat.zero_add, getD_put3_ne _ _ _ _ hne, h.same]
theorem ApInv.own {n : Nat} {cs own : List Int} {p : Nat} {S E : Dk.Ds} {cnt k : Nat} (h : ApInv n cs own p S E cnt k) (x : Dk.Str) (hq : p < n) (hx : x.length = 512) : ApInv n cs (own ++ [raw cs cnt]) p (Dk.write S p x) (Dk.write E p x) (cnt + 1) (k + 1) := by
  obtain ⟨e1, e2, e3, e4⟩ := write_yes S p x (by rw [h.sn]; exact hq) hx
  obtain ⟨f1, f2, f3, f4⟩ := write_yes E p x (by rw [h.en]; exact hq) hx
  have b1 := h.b1
  have b2 := h.b2
  have b3 := h.b3
  have b4 := h.b4
  refine ⟨by rw [e3]; exact h.sn, by rw [f3]; exact h.en, by rw [f2]; simp [h.len], by rw [e2, List.length_append, h.cnt]; rfl, ?_, by rw [e2]; simp; omega, by omega, by rw [f2]; simp; omega, by omega⟩
  rw [e2, e3, f2, f3, Dk.crashD_snoc, Nat.zero_add, Dk.crashD_snoc, Nat.zero_add]
  have hu : Dk.crashD (own ++ [raw cs cnt]) 0 E.pend E.dur = Dk.crashD own 0 E.pend E.dur := crashD_upto _ _ _ (fun j hj => by rw [Nat.zero_add]; exact choice_old _ _ _ (by rw [h.len]; exact hj))
  rw [hu]
  have hc : Dk.choice (own ++ [raw cs cnt]) E.pend.length = Dk.choice cs S.pend.length := by rw [← h.len, choice_new, h.cnt, choice_raw]
  rw [hc]
  exact getD_put3 _ _ _ _ _ h.same (by rw [Dk.crashD_length, Dk.crashD_length, h.sn, h.en])
theorem read_same {n : Nat} {cs own : List Int} {p : Nat} {S E : Dk.Ds} {cnt k : Nat} (h : ApInv n cs own p S E cnt k) : Dk.read (Dk.crash S cs).dur (Dk.crash S cs).pend p = Dk.read (Dk.crash E own).dur (Dk.crash E own).pend p := by
  have e : Dk.cont (Dk.crash S cs).dur (Dk.crash S cs).pend p = Dk.cont (Dk.crash E own).dur (Dk.crash E own).pend p := h.same
  unfold Dk.read
  rw [show (Dk.crash S cs).dur.length = (Dk.crash E own).dur.length from by show (Dk.crashD _ _ _ _).length = (Dk.crashD _ _ _ _).length; rw [Dk.crashD_length, Dk.crashD_length, h.sn, h.en]]
  simp only [Int.toNat_natCast, e]
theorem info_int' : (Try.prog.info? 3).map (fun i => (i.zero, i.size, i.bytes)) = some (some (.int .i64 0), 1, 8) := by kernel_rfl
theorem ints_snoc (l : List Int) (x : Int) : ints l ++ [.int .i64 x] = ints (l ++ [x]) := by simp [ints]

set_option maxRecDepth 20000 in
set_option maxHeartbeats 4000000 in
theorem diskApart_walk (q : Nat) (hq1 : q ≤ 255) (A : Option Addr) (L : List Ac) (c : Nat) (B : Option Addr) (cs : List Int) (cc : Nat) (which : Nat) (w : World) (hR : Rd w A (acts L)) (hl : L.length ≤ 9223372036854775807) (hok : ∀ a ∈ L, AcOk w a)
    (hRc : Rd w B (ints cs)) (hcl : cs.length ≤ 9223372036854775807) (hwh : which ≤ 255) :
    Calls Try.prog 6 #[.int .u8 q, .slice A L.length c, .slice B cs.length cc, .int .u8 which] w fun e w' => e = .returned (.bool true) ∧ Below w.heap.size w w' := by
  have HI := Lib.hid (And.intro hR (And.intro hok hRc))
  clear hR hok hRc
  have hc0 : (0 : Int) ≤ (cs.length : Int) := by omega
  go_enter Try.func6, Try.ntmps6
  go_wp2_with fail
  refine (awake_disk w).mono ?_
  rintro e w1 ⟨rfl, b1⟩
  have h1 := (St.nil w).under b1
  go_wp2_with fail
  refine (few_spec A L c w1 (HI.out.1.below b1) hl (fun a ha => (HI.out.2.1 a ha).below b1)).mono ?_
  rintro e w1' ⟨rfl, rfl⟩
  by_cases hf : few L = true
  · rw [hf]
    by_cases h20 : 20 < cs.length
    · have h20' : decide ((20 : Int) < (cs.length : Int)) = true := by simp; omega
      go_wp2
      go_ret
      exact ⟨rfl, b1⟩
    have h20' : decide ((20 : Int) < (cs.length : Int)) = false := by simp; omega
    go_wp2_with fail
    refine (s_start h1 q hq1).mono ?_
    rintro e w2 ⟨d, A1, c1, A2, c2, rfl, h2⟩
    clear h1 b1
    obtain ⟨n, hn⟩ : ∃ n, 1 + q % 12 = n := ⟨_, rfl⟩
    have hn12 : n ≤ 12 := by omega
    have hn1 : 1 ≤ n := by omega
    rw [hn] at h2 ⊢
    clear hn
    go_wp2_with fail
    have h3 := (h2.alloc0 (.cells #[.slice A1 n c1, .slice A2 0 c2] 32)).swap.tail
    generalize w2.alloc (.cells #[.slice A1 n c1, .slice A2 0 c2] 32) = w3 at h3 ⊢
    generalize w2.heap.size = b at h3 ⊢
    clear h2
    refine (s_sync h3 (by simp [blank]) (by simp [blank])).mono ?_
    rintro e w4 ⟨rfl, h4⟩
    have hsb : Dk.sync (blank n) = blank n := rfl
    rw [hsb] at h4
    clear h3
    go_wp2_with fail
    refine (s_clone h4 (by simp [blank])).mono ?_
    rintro e w5 ⟨x, rfl, h5⟩
    have hcb : Dk.clone (blank n) = blank n := rfl
    rw [hcb] at h5
    clear h4
    have hbl : (blank n).dur.length = n := by simp [blank]
    have n0 : decide ((n : Int) < 1) = false := by simp; omega
    go_wp2_with fail
    refine (s_pages h5.swap).mono ?_
    rintro e w5' ⟨rfl, rfl⟩
    rw [hbl]
    go_wp2_with fail
    refine (s_pages h5.swap).mono ?_
    rintro e w5' ⟨rfl, rfl⟩
    rw [hbl]
    clear hbl
    have hrem : (which : Int).tmod (n : Int) = ((which % n : Nat) : Int) := by rw [Int.tmod_eq_emod_of_nonneg (by omega)]; rfl
    have hn00 : ¬ (n : Int) = 0 := by omega
    obtain ⟨p, hp⟩ : ∃ p, which % n = p := ⟨_, rfl⟩
    have hpn : p < n := by rw [← hp]; exact Nat.mod_lt _ (by omega)
    rw [hp] at hrem
    clear hp
    have hL40 := (few_at hf).2
    go_wp2
    go_loopw [13, 14, 58] (fun cv v i wr => ∃ (k cnt : Nat) (S E : Dk.Ds) (own : List Int) (v' : Value), k ≤ L.length ∧ i = .int .i64 k ∧ cv = .int .i64 cnt ∧ v' = v ∧ St w.heap.size w wr [diskR d S, diskR x E, ownR 3 1 v' own.length (ints own)] ∧ ApInv n cs own p S E cnt k) (fun _ _ i _ => L.length - (intOf i).toNat)
    case atStart =>
      refine ⟨0, 0, blank n, blank n, [], .slice none 0 0, Nat.zero_le _, rfl, rfl, rfl, ?_, ⟨by simp [blank], by simp [blank], rfl, rfl, rfl, by simp [blank], by simp [blank], by simp [blank], by simp [blank]⟩⟩
      exact ((h5.new_own (Below.refl _ _) (World.ownsRow_nil _ _ _ _) : St w.heap.size w _ (ownR 3 1 (.slice none 0 0) 0 [] :: _))).pick [2, 1, 0] (by decide) (by simp)
    case round =>
      obtain ⟨k, cnt, S, E, own, v', hk, rfl, rfl, rfl, h, hinv⟩ := hrel
      clear h5
      have hS12 : S.dur.length ≤ 12 := by rw [hinv.sn]; exact hn12
      have b1 := hinv.b1
      have b2 := hinv.b2
      have b3 := hinv.b3
      have b4 := hinv.b4
      have b5 : cnt ≤ k := by rw [← hinv.cnt]; exact b1
      by_cases hlt : k < L.length
      · obtain ⟨b0, off, rfl, hbl, hcc⟩ := rd_elem acc 5 (fun _ => rfl) (HI.out.1.below h.below) hlt (by omega)
        have hc0 := hcc 0 _ rfl
        have hc1 := hcc 1 _ rfl
        have hc2 := hcc 2 _ rfl
        have hc3 := hcc 3 _ rfl
        have hc4 := hcc 4 _ rfl
        have hoka := HI.out.2.1 _ (List.getElem_mem hlt)
        have hfa := (few_at hf).1 _ (List.getElem_mem hlt)
        obtain ⟨a, ha⟩ : ∃ a, L[k] = a := ⟨_, rfl⟩
        rw [ha] at hc0 hc1 hc2 hc3 hc4 hoka hfa
        simp only [Nat.add_zero] at hc0
        have hk1 : (k : Int) < (L.length : Int) := by omega
        have hk0 : (0 : Int) ≤ (k : Int) := by omega
        have HK := Lib.hid hoka
        clear hoka ha hcc
        have hm3 : a.kind.tmod 3 = a.kind % 3 := Int.tmod_eq_emod_of_nonneg HK.out.2.2.2.2.1
        obtain ⟨m, hm⟩ : ∃ m, a.kind % 3 = m := ⟨_, rfl⟩
        rw [hm] at hm3
        have HV := Lib.hid hinv
        clear hinv hm
        have skip : ∀ wz, Below wr.heap.size wr wz → ∃ (k' cnt' : Nat) (S' E' : Dk.Ds) (own' : List Int) (v'' : Value), k' ≤ L.length ∧ Value.int .i64 ((k : Int) + 1) = .int .i64 k' ∧ Value.int .i64 (cnt : Int) = .int .i64 cnt' ∧ v'' = v' ∧ St w.heap.size w wz [diskR d S', diskR x E', ownR 3 1 v'' own'.length (ints own')] ∧ ApInv n cs own' p S' E' cnt' k' :=
          fun wz hz => ⟨k + 1, cnt, S, E, own, v', by omega, by go_num, rfl, rfl, h.under hz, ⟨HV.out.sn, HV.out.en, HV.out.len, HV.out.cnt, HV.out.same, by omega, by omega, by omega, by omega⟩⟩
        have HS := Lib.hid skip
        clear skip
        have hb0 : Below wr.heap.size wr (wr.alloc (.cells #[.int .u8 a.kind, .int .i64 a.op.page, .string ⟨a.op.data.toArray⟩, .bool a.op.sync, .slice a.A a.cs.length a.c] 41)) := (Below.refl _ wr).alloc (Nat.le_refl _) _
        by_cases e0 : m = 0
        · subst e0
          by_cases e1 : a.op.page < 0
          · have e1' : decide (a.op.page < 0) = true := by simpa using e1
            go_wp2
            go_roundw
            case rel => exact HS.out _ hb0
            case measure => simp [intOf]; omega
          · have e1' : decide (a.op.page < 0) = false := by simpa using e1
            go_wp2_with fail
            refine (s_pages (h.under hb0)).mono ?_
            rintro e w6 ⟨rfl, rfl⟩
            have hsn : (S.dur.length : Int) = n := by rw [HV.out.sn]
            rw [hsn]
            clear hsn
            by_cases e2 : (n : Int) ≤ a.op.page
            · have e2' : decide (a.op.page ≥ (n : Int)) = true := by simpa using e2
              go_wp2
              go_roundw
              case rel => exact HS.out _ hb0
              case measure => simp [intOf]; omega
            · have e2' : decide (a.op.page ≥ (n : Int)) = false := by simpa using e2
              by_cases e3 : a.op.data.length = 512
              · have e3' : (a.op.data.length : Int) = 512 := by omega
                have H3 := Lib.hid e3
                clear e3
                obtain ⟨pp, hpp⟩ : ∃ pp : Nat, a.op.page = pp := ⟨a.op.page.toNat, by omega⟩
                have hppn : pp < n := by omega
                rw [hpp] at hc1 e1 e1' e2 e2'
                have hw := write_yes S pp a.op.data (by rw [HV.out.sn]; exact hppn) H3.out
                have hwe := write_yes E pp a.op.data (by rw [HV.out.en]; exact hppn) H3.out
                have hx63 : a.op.data.length ≤ 9223372036854775807 := by omega
                go_wp2_with fail
                have h6 := (h.alloc 41 #[.int .u8 a.kind, .int .i64 a.op.page, .string ⟨a.op.data.toArray⟩, .bool a.op.sync, .slice a.A a.cs.length a.c]).rot
                rw [hpp] at h6
                refine (s_write h6 pp a.op.data (by omega) (by omega) hx63).mono ?_
                rintro e w6 ⟨rfl, h7⟩
                rw [hw.1]
                clear h6
                have ba := (h7.front 3 (by simp)).blk
                have ka2 := ba.cell 2
                have la := ba.lt
                simp at ka2
                clear ba
                by_cases e4 : pp = p
                · subst e4
                  have e4' : ((pp : Int) == (pp : Int)) = true := by simp
                  go_wp2_with fail
                  refine (s_write (h7.front 1 (by simp)) pp a.op.data (by omega) (by omega) hx63).mono ?_
                  rintro e w7 ⟨rfl, h8⟩
                  rw [hwe.1]
                  clear h7 ka2 la
                  have HN := Lib.hid (HV.out.own a.op.data hppn H3.out)
                  have hol : own.length ≤ k := by rw [HV.out.len]; exact b3
                  clear hw hwe
                  by_cases hcs : cs.length = 0
                  · have hz1 : decide ((0 : Int) < (cs.length : Int)) = false := by rw [hcs]; rfl
                    have hz2 : decide (0 < cs.length) = false := by rw [hcs]; rfl
                    have hraw : raw cs cnt = 0 := by unfold raw; rw [if_pos hcs]
                    rw [hraw] at HN
                    clear hraw hcs
                    go_wp2_with (at_builtin; go_must (refine appendO 39 (u := .int .i64 0) ((h8.front 2 (by simp)).drewN 0) Try.underlying39 info_int' rfl rfl _ _ rfl rfl rfl rfl (by unfold maxLen; omega) (by omega) ?_); intro v2 w8 h9)
                    go_roundw
                    case rel => exact ⟨k + 1, cnt + 1, _, _, own ++ [0], v2, by omega, by go_num, by go_num, rfl, by
                        have := h9.pick [2, 1, 0] (by decide) (by simp)
                        rw [ints_snoc] at this
                        simpa using this, HN.out⟩
                    case measure => simp [intOf]; omega
                  · have hz1 : decide ((0 : Int) < (cs.length : Int)) = true := by simp; omega
                    have hz2 : decide (0 < cs.length) = true := by simp; omega
                    have hm1 : (cnt : Int).tmod (cs.length : Int) = ((cnt % cs.length : Nat) : Int) := by rw [Int.tmod_eq_emod_of_nonneg (by omega)]; rfl
                    have hm0 : ¬ (cs.length : Int) = 0 := by omega
                    have hraw : raw cs cnt = cs.getD (cnt % cs.length) 0 := by unfold raw; rw [if_neg hcs]
                    obtain ⟨r, hr⟩ : ∃ r, cnt % cs.length = r := ⟨_, rfl⟩
                    have hrl : r < cs.length := by rw [← hr]; exact Nat.mod_lt _ (by omega)
                    rw [hr] at hm1 hraw
                    have hm2 : (cnt : Int) % (cs.length : Int) = (r : Int) := by rw [← hr]; rfl
                    have hri : (r : Int) < (cs.length : Int) := by omega
                    have hr0 : (0 : Int) ≤ (r : Int) := by omega
                    obtain ⟨y, hy⟩ : ∃ y, cs.getD r 0 = y := ⟨_, rfl⟩
                    rw [hraw, hy] at HN
                    obtain ⟨bB, oB, hB⟩ : ∃ bB oB, B = some ⟨bB, oB, none⟩ ∧ w.cell? ⟨bB, oB + r, none⟩ = some (.int .i64 y) := by
                      rcases HI.out.2.2 with hh | ⟨bB, oB, hA, hcc⟩
                      · rw [ints_eq_nil hh] at hrl; simp at hrl
                      · refine ⟨bB, oB, hA, ?_⟩
                        rw [hcc r (by rw [ints_length]; exact hrl), ← hy]
                        simp [ints, hrl]
                    obtain ⟨rfl, hcB⟩ := hB
                    have hcB7 := h8.below.cell (World.block_lt_of_cell? w _ hcB)
                    rw [hcB] at hcB7
                    clear hr hy hraw hcB hcs hrl
                    go_wp2_with (at_builtin; go_must (refine appendO 39 (u := .int .i64 y) ((h8.front 2 (by simp)).drewN 0) Try.underlying39 info_int' rfl rfl _ _ rfl rfl rfl rfl (by unfold maxLen; omega) (by omega) ?_); intro v2 w8 h9)
                    go_roundw
                    case rel => exact ⟨k + 1, cnt + 1, _, _, own ++ [y], v2, by omega, by go_num, by go_num, rfl, by
                        have := h9.pick [2, 1, 0] (by decide) (by simp)
                        rw [ints_snoc] at this
                        simpa using this, HN.out⟩
                    case measure => simp [intOf]; omega
                · have e4' : ((pp : Int) == (p : Int)) = false := by rw [beq_eq_false_iff_ne]; omega
                  go_wp2
                  go_roundw
                  case rel => exact ⟨k + 1, cnt + 1, _, E, own, v', by omega, by go_num, by go_num, rfl, h7.pick [0, 1, 2] (by decide) (by simp), HV.out.other pp a.op.data hppn H3.out e4⟩
                  case measure => simp [intOf]; omega
              · have e3' : ((a.op.data.length : Int) == 512) = false := by rw [beq_eq_false_iff_ne]; omega
                clear e3
                go_wp2
                go_roundw
                case rel => exact HS.out _ hb0
                case measure => simp [intOf]; omega
        · have e0' : (m == 0) = false := by rw [beq_eq_false_iff_ne]; exact e0
          go_wp2
          go_roundw
          case rel => exact HS.out _ hb0
          case measure => simp [intOf]; omega
      · obtain rfl : k = L.length := by omega
        have HV := Lib.hid hinv
        have hol : own.length ≤ 40 := by rw [hinv.len]; omega
        clear hinv b5
        go_wp2_with fail
        refine (s_crash h B cs cc (HI.out.2.2.below h.below) hcl (ints_lt HI.out.2.2) (by omega)).mono ?_
        rintro e w6 ⟨rfl, h6⟩
        clear h
        obtain ⟨A3, c3, rfl, hx1, hx2⟩ := own_form h6.rot.rot.own
        go_wp2_with fail
        refine (s_crashO (h6.pick [1, 2, 0] (by decide) (by simp)) (by omega)).mono ?_
        rintro e w7 ⟨rfl, h7⟩
        clear h6
        have hsame := read_same HV.out
        go_wp2_with fail
        refine (s_read h7.swap p).mono ?_
        rintro e w7' ⟨rfl, rfl⟩
        rw [hsame]
        go_wp2_with fail
        refine (s_read h7 p).mono ?_
        rintro e w7' ⟨rfl, rfl⟩
        clear hsame
        generalize Dk.read (Dk.crash E own).dur (Dk.crash E own).pend p = z
        go_wp2
        go_ret
        exact ⟨rfl, h7.below⟩
  · rw [Bool.not_eq_true] at hf
    rw [hf]
    go_wp2
    go_ret
    exact ⟨rfl, b1⟩
end Go.Proofs.Ytepdfeegklinfaa
