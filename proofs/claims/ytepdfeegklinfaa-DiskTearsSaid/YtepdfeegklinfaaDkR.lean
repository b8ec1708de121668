/-
  The reference's disk: New, Read, choice, Write, Crash, Sync, Do, Image. Conditions: at most 2^40 pending writes, 4096 pages.
-/
import Derived.Test.YtepdfeegklinfaaDkD
import Derived.Test.YtepdfeegklinfaaAppS
import Derived.Deep.RegionHeld3
namespace Go.Proofs.Ytepdfeegklinfaa
set_option linter.unusedVariables false
open Go.RowKit Go.ChangeMaps Go.MapKept

/-- a disk of the reference, as a value -/
def RV (w : World) (v : Value) (dur : List Dk.Str) (pend : List Dk.Wr) : Prop :=
  ∃ A0 c0 A1 c1, v = .agg #[.slice A0 dur.length c0, .slice A1 pend.length c1] ∧ Rd w A0 (strs dur) ∧ Rd w A1 (wrs pend) ∧ (A0 = none → dur.length = 0 ∧ c0 = 0) ∧ (A1 = none → pend.length = 0 ∧ c1 = 0)
theorem RV.below {w w' : World} {v : Value} {dur : List Dk.Str} {pend : List Dk.Wr} (h : RV w v dur pend) (hb : Below w.heap.size w w') : RV w' v dur pend := by
  obtain ⟨A0, c0, A1, c1, e, r0, r1, n0, n1⟩ := h
  exact ⟨A0, c0, A1, c1, e, r0.below hb, r1.below hb, n0, n1⟩

theorem below_none {w w' : World} (h : w.grownBy w' none) : Below w.heap.size w w' := (Below.refl _ w).grown h (Nat.le_refl _) (fun k e => by cases e)
theorem rnew_no (p : Int) (w : World) (h : p < 1 ∨ 4096 < p) :
    Calls Try.prog 13 #[.int .i64 p] w fun e w' => e = .returned (.tuple #[.agg #[.slice none 0 0, .slice none 0 0], .int .i64 2]) ∧ Below w.heap.size w w' := by
  rcases h with h | h
  · go_enter Try.func13, Try.ntmps13
    go_wp2
    refine bodyPost_ret (v := .tuple #[.agg #[.slice none 0 0, .slice none 0 0], .int .i64 2]) (by simp [results, Try.results13, go_sem]) rfl ⟨rfl, (Below.refl _ w).alloc (Nat.le_refl _) _⟩
  · have h1 : decide (p < 1) = false := by simp; omega
    go_enter Try.func13, Try.ntmps13
    go_wp2
    refine bodyPost_ret (v := .tuple #[.agg #[.slice none 0 0, .slice none 0 0], .int .i64 2]) (by simp [results, Try.results13, go_sem]) rfl ⟨rfl, (Below.refl _ w).alloc (Nat.le_refl _) _⟩
/-- the rows of a reference's disk lie in blocks of G -/
def InG (G : Nat → Prop) (v : Value) : Prop := ∀ A n c B m d, v = .agg #[.slice A n c, .slice B m d] → (∀ p, A = some p → G p.block) ∧ (∀ p, B = some p → G p.block)
theorem InG.mk {G : Nat → Prop} {A B : Option Addr} {n c m d : Nat} (h0 : ∀ p, A = some p → G p.block) (h1 : ∀ p, B = some p → G p.block) : InG G (.agg #[.slice A n c, .slice B m d]) := by
  intro A' n' c' B' m' d' he
  injection he with he
  simp at he
  obtain ⟨⟨rfl, rfl, rfl⟩, rfl, rfl, rfl⟩ := he
  exact ⟨h0, h1⟩
theorem InG.mono {G G' : Nat → Prop} {v : Value} (h : InG G v) (hg : ∀ k, G k → G' k) : InG G' v := fun A n c B m d e => ⟨fun p hp => hg _ ((h A n c B m d e).1 p hp), fun p hp => hg _ ((h A n c B m d e).2 p hp)⟩
/-- the rows of v are those of v0, or new from w to w' -/
def Kept (v0 v : Value) (w w' : World) : Prop := ∀ G, InG G v0 → InG (grow G w w') v
theorem Kept.same (v : Value) (w w' : World) : Kept v v w w' := fun G h => h.mono fun k hk => .inl hk
theorem Kept.wide {v0 v : Value} {w1 w2 w w' : World} (h : Kept v0 v w1 w2) (h1 : w.heap.size ≤ w1.heap.size) (h2 : w2.heap.size ≤ w'.heap.size) : Kept v0 v w w' := fun G hG => (h G hG).mono fun k hk => by
  rcases hk with hk | hk
  · exact .inl hk
  · exact .inr ⟨by omega, by omega⟩
/-- a reference's result: a disk and an error -/
def RvP (v0 : Value) (dur : List Dk.Str) (pend : List Dk.Wr) (err : Int) (w : World) (e : Ending) (w' : World) : Prop := ∃ v, e = .returned (.tuple #[v, .int .i64 err]) ∧ RV w' v dur pend ∧ Below w.heap.size w w' ∧ Kept v0 v w w'
def RvQ (v0 : Value) (dur : List Dk.Str) (pend : List Dk.Wr) (w : World) (e : Ending) (w' : World) : Prop := ∃ v, e = .returned v ∧ RV w' v dur pend ∧ Below w.heap.size w w' ∧ Kept v0 v w w'
set_option maxRecDepth 20000 in
set_option maxHeartbeats 1000000 in
theorem rnew_spec (n : Nat) (w : World) (h1 : 1 ≤ n) (h2 : n ≤ 4096) :
    Calls Try.prog 13 #[.int .i64 n] w (RvP (.bool false) (List.replicate n []) [] 0 w) := by
  have d1 : decide ((n : Int) < 1) = false := by simp; omega
  have d2 : decide (4096 < (n : Int)) = false := by simp; omega
  have e1 : 1 ≤ (n : Int) := by omega
  have e2 : (n : Int) ≤ 4096 := by omega
  obtain ⟨i0, hi, hz0, hz1, hz2⟩ := info_parts info_str
  go_enter Try.func13, Try.ntmps13
  go_wp2_with (at_make; go_must (refine wpList_make_full _ rfl _ _ 29 rfl w.heap.size 9 i0 (.string ⟨#[]⟩) 1 Try.underlying29 hi hz0 hz1 .i64 .i64 _ _ n rfl rfl rfl rfl (by rw [hz2]; omega) (by unfold maxLen; omega) (by simp) ?_); intro w1 hown1 hg1; have k0 : w1.cell? ⟨w.heap.size, 0, none⟩ = some (.slice none 0 0) := hg1.cell (a := ⟨w.heap.size, 0, none⟩) (by simp) (by simp); have k1 : w1.cell? ⟨w.heap.size, 1, none⟩ = some (.slice none 0 0) := hg1.cell (a := ⟨w.heap.size, 1, none⟩) (by simp) (by simp); have f0 : ∀ i, w1.frozen? ⟨w.heap.size, i, none⟩ = false := fun i => ((Blk.new w 32 #[.slice none 0 0, .slice none 0 0]).below (below_none hg1)).frozen i)
  have hb := (((Blk.new w 32 #[.slice none 0 0, .slice none 0 0]).below (below_none hg1)).set_ 0 (.slice (some ⟨w.heap.size + 1, 0, none⟩) n n)).set_ 1 (.slice none 0 0)
  have q0 := hb.cell 0
  have q1 := hb.cell 1
  simp at q0 q1
  rw [made_blank] at hown1
  have hb1 : Below w.heap.size w w1 := ((Below.refl _ w).alloc (Nat.le_refl _) _).trans ((below_none hg1).mono (by simp))
  have ho := mod_owns_ne (d := w.heap.size) (i := 0) (u := .slice (some ⟨w.heap.size + 1, 0, none⟩) n n) hown1 (by simp [Value.ownBlock])
  have ho2 := mod_owns_ne (d := w.heap.size) (i := 1) (u := .slice none 0 0) ho (by simp [Value.ownBlock])
  refine bodyPost_ret (v := .tuple #[.agg #[.slice (some ⟨w.heap.size + 1, 0, none⟩) n n, .slice none 0 0], .int .i64 0]) (by simp [results, Try.results13, go_sem, q0, q1]) rfl ?_
  refine ⟨_, rfl, ⟨some ⟨w.heap.size + 1, 0, none⟩, n, none, 0, by simp, ?_, Rd.nil _ _, (fun h => by cases h), (fun _ => ⟨rfl, rfl⟩)⟩, (hb1.setCell (p := ⟨w.heap.size, 0, none⟩) (Nat.le_refl _) _).setCell (p := ⟨w.heap.size, 1, none⟩) (Nat.le_refl _) _, fun G _ => InG.mk (fun p hp => ?_) (fun p hp => by cases hp)⟩
  · have := Rd.of_own ho2
    simpa using this
  · injection hp with hp
    subst hp
    exact .inr ⟨by simp, by have := (ho2.lt _ rfl).2; simpa using this⟩

set_option maxRecDepth 20000 in
set_option maxHeartbeats 1000000 in
theorem rread_spec (v : Value) (dur : List Dk.Str) (pend : List Dk.Wr) (p : Int) (w : World) (h : RV w v dur pend) (hd : dur.length ≤ 4096) (hP : pend.length ≤ 1099511627776) :
    Calls Try.prog 21 #[v, .int .i64 p] w fun e w' => e = .returned (.tuple #[.string ⟨(Dk.read dur pend p).1.toArray⟩, .int .i64 (Dk.read dur pend p).2]) ∧ Below w.heap.size w w' := by
  obtain ⟨A0, c0, A1, c1, rfl, r0, r1, n0, n1⟩ := h
  by_cases hp : p < 0 ∨ (dur.length : Int) ≤ p
  · rw [show Dk.read dur pend p = ([], 2) from by unfold Dk.read; rw [if_pos hp]]
    rcases hp with hp | hp
    · go_enter Try.func21, Try.ntmps21
      go_wp2
      go_ret2
      exact ⟨rfl, (Below.refl _ w).alloc (Nat.le_refl _) _⟩
    · have h1 : decide (p < 0) = false := by simp; omega
      go_enter Try.func21, Try.ntmps21
      go_wp2
      go_ret2
      exact ⟨rfl, (Below.refl _ w).alloc (Nat.le_refl _) _⟩
  · obtain ⟨q, rfl⟩ : ∃ q : Nat, p = q := ⟨p.toNat, by omega⟩
    have hq : q < dur.length := by omega
    have hd1 : decide ((q : Int) < 0) = false := by simp
    have hd2 : decide ((dur.length : Int) ≤ (q : Int)) = false := by simp; omega
    have hd3 : decide ((q : Int) ≥ (dur.length : Int)) = false := by simp; omega
    obtain ⟨b, off, rfl, hc⟩ := r0.str hq
    have hbl := World.block_lt_of_cell? w _ hc
    have hq0 : (0 : Int) ≤ (q : Int) := by omega
    have hq1 : (q : Int) < (dur.length : Int) := by omega
    have hrd : Dk.read dur pend (q : Int) = if Dk.cont dur pend q = Dk.unread then ([], 21) else (Dk.cont dur pend q, 0) := by unfold Dk.read; rw [if_neg hp]; rfl
    have hct : Dk.cont dur [] q = dur[q] := by simp [Dk.cont, Dk.last, hq]
    have HR := Lib.hid (And.intro r1 (And.intro hrd hct))
    clear hp hrd hct r0 r1 n0 n1
    go_enter Try.func21, Try.ntmps21
    go_wp2
    go_loop [6, 7] (fun s i => ∃ k : Nat, k ≤ pend.length ∧ i = .int .i64 k ∧ s = .string ⟨(Dk.cont dur (pend.take k) q).toArray⟩) (fun _ i => pend.length - (intOf i).toNat)
    case atStart => exact ⟨0, Nat.zero_le _, rfl, by rw [List.take_zero, HR.out.2.2]⟩
    case round =>
      obtain ⟨k, hk, rfl, rfl⟩ := hrel
      by_cases hlt : k < pend.length
      · obtain ⟨b1, off1, rfl, hbl1, hcc⟩ := rd_elem (fun x : Dk.Wr => [.int .i64 x.1, .string ⟨x.2.toArray⟩]) 2 (fun _ => rfl) HR.out.1 hlt (by omega)
        have hc0 := hcc 0 _ rfl
        have hc1 := hcc 1 _ rfl
        have hst : Dk.cont dur (pend.take (k + 1)) q = if pend[k].1 = q then pend[k].2 else Dk.cont dur (pend.take k) q := by
          rw [List.take_succ_eq_append_getElem hlt]
          unfold Dk.cont
          rw [Dk.last_snoc]
          by_cases e : pend[k].1 = q <;> simp [e]
        obtain ⟨⟨p, x⟩, hpx⟩ : ∃ r, pend[k] = r := ⟨_, rfl⟩
        try simp only at hc0 hc1
        rw [hpx] at hc0 hc1 hst
        try simp only [Nat.add_zero] at hc0 hc1 hst
        have hi0 : (0 : Int) ≤ (k : Int) := by omega
        have hi1 : (k : Int) < (pend.length : Int) := by omega
        have hpos : 0 < pend.length := by omega
        have HS := Lib.hid hst
        clear hcc hst hpx
        by_cases e : p = q
        · have e' : ((p : Int) == (q : Int)) = true := by simp [e]
          have HE := Lib.hid e
          clear e
          go_wp2
          go_round
          case rel => exact ⟨k + 1, by omega, by go_num, by rw [HS.out, if_pos HE.out]⟩
          case measure => simp [intOf]; omega
        · have e' : ((p : Int) == (q : Int)) = false := by rw [beq_eq_false_iff_ne]; omega
          have HE := Lib.hid e
          clear e
          go_wp2
          go_round
          case rel => exact ⟨k + 1, by omega, by go_num, by rw [HS.out, if_neg HE.out]⟩
          case measure => simp [intOf]; omega
      · obtain rfl : k = pend.length := by omega
        rw [List.take_length]
        obtain ⟨y, hy⟩ : ∃ y, Dk.cont dur pend q = y := ⟨_, rfl⟩
        have hrd := HR.out.2.1
        rw [hy] at hrd ⊢
        have HY := Lib.hid hrd
        clear hrd hy
        by_cases hu : y = Dk.unread
        · have hu' : (y == [33]) = true := by rw [beq_iff_eq]; exact hu
          have HU := Lib.hid hu
          clear hu
          go_wp2
          go_ret2
          exact ⟨by rw [HY.out, if_pos HU.out]; rfl, (Below.refl _ w).alloc (Nat.le_refl _) _⟩
        · have hu' : (y == [33]) = false := by rw [beq_eq_false_iff_ne]; exact hu
          have HU := Lib.hid hu
          clear hu
          go_wp2
          go_ret2
          exact ⟨by rw [HY.out, if_neg HU.out]; rfl, (Below.refl _ w).alloc (Nat.le_refl _) _⟩

theorem rd_new2 (W : World) (u v : Value) (e : TypeId) : Rd (W.alloc (.cells #[u, v] e)) (some ⟨W.heap.size, 0, none⟩) [u, v] := by
  refine .inr ⟨W.heap.size, 0, rfl, fun j hj => ?_⟩
  rw [World.cell?_alloc_mark W #[u, v] e (0, 0)]
  match j, hj with
  | 0, _ => rfl
  | 1, _ => rfl
theorem info_pd : (Try.prog.info? 81).map (fun i => (i.zero, i.size, i.bytes)) = some (some (.agg #[.int .i64 0, .string ⟨#[]⟩]), 2, 24) := by kernel_rfl
set_option maxRecDepth 20000 in
set_option maxHeartbeats 4000000 in
theorem rwrite_spec (v : Value) (dur : List Dk.Str) (pend : List Dk.Wr) (p : Int) (x : Dk.Str) (w : World) (h : RV w v dur pend) (hd : dur.length ≤ 4096) (hP : pend.length ≤ 1099511627776) :
    Calls Try.prog 36 #[v, .int .i64 p, .string ⟨x.toArray⟩] w (RvP v dur (Dk.wPend dur pend p x) (Dk.wErr dur p x) w) := by
  have hh := h
  obtain ⟨A0, c0, A1, c1, rfl, r0, r1, n0, n1⟩ := h
  by_cases hp : p < 0 ∨ (dur.length : Int) ≤ p
  · have he : Dk.wErr dur p x = 2 := by unfold Dk.wErr; rw [if_pos hp]
    rw [show Dk.wPend dur pend p x = pend from by unfold Dk.wPend; rw [he]; rfl, he]
    have HH := Lib.hid hh
    clear hh he r0 r1 n0 n1
    rcases hp with hp | hp
    · go_enter Try.func36, Try.ntmps36
      go_wp2
      refine bodyPost_ret (v := .tuple #[.agg #[.slice A0 dur.length c0, .slice A1 pend.length c1], .int .i64 2]) (by simp [results, Try.results36, go_sem]) rfl ?_
      have hb : Below w.heap.size w ((w.alloc (.cells #[.slice A0 dur.length c0, .slice A1 pend.length c1] 32)).alloc (.cells #[.slice A0 dur.length c0, .slice A1 pend.length c1] 32)) := ((Below.refl _ w).alloc (Nat.le_refl _) _).alloc (by simp) _
      exact ⟨_, rfl, HH.out.below hb, hb, Kept.same _ _ _⟩
    · have h1 : decide (p < 0) = false := by simp; omega
      go_enter Try.func36, Try.ntmps36
      go_wp2
      refine bodyPost_ret (v := .tuple #[.agg #[.slice A0 dur.length c0, .slice A1 pend.length c1], .int .i64 2]) (by simp [results, Try.results36, go_sem]) rfl ?_
      have hb : Below w.heap.size w ((w.alloc (.cells #[.slice A0 dur.length c0, .slice A1 pend.length c1] 32)).alloc (.cells #[.slice A0 dur.length c0, .slice A1 pend.length c1] 32)) := ((Below.refl _ w).alloc (Nat.le_refl _) _).alloc (by simp) _
      exact ⟨_, rfl, HH.out.below hb, hb, Kept.same _ _ _⟩
  obtain ⟨q, rfl⟩ : ∃ q : Nat, p = q := ⟨p.toNat, by omega⟩
  have hd1 : decide ((q : Int) < 0) = false := by simp
  have hd3 : decide ((q : Int) ≥ (dur.length : Int)) = false := by simp; omega
  have hd2 : decide ((dur.length : Int) ≤ (q : Int)) = false := by simp; omega
  have hq1 : (q : Int) < (dur.length : Int) := by omega
  by_cases hl : x.length = 512
  · have he : Dk.wErr dur q x = 0 := by unfold Dk.wErr; rw [if_neg hp, if_pos hl]
    rw [show Dk.wPend dur pend q x = pend ++ [(q, x)] from by unfold Dk.wPend; rw [he]; rfl, he]
    have hl1 : ((x.length : Int) != 512) = false := by rw [hl]; rfl
    clear hp he hl hh
    have hsz : (wrs pend).length = pend.length * 2 := wrs_length pend
    have hone := wrs_one pend
    have bb1 : (0 + pend.length) * 24 ≤ 140737488355328 := by omega
    have bb2 : 0 + pend.length ≤ maxLen := by unfold maxLen; omega
    have bb3 : (pend.length + 1) * 24 ≤ 140737488355328 := by omega
    have bb4 : pend.length + 1 ≤ maxLen := by unfold maxLen; omega
    obtain ⟨i0, hi, hz0, hz1, hz2⟩ := info_parts info_pd
    have HN := Lib.hid (And.intro hsz (And.intro hone (And.intro n0 (And.intro n1 (And.intro r0 r1)))))
    clear hsz hone n0 n1 r0 r1
    go_enter Try.func36, Try.ntmps36
    go_wp2_with fail
    obtain ⟨W2, hW2⟩ : ∃ W2, (w.alloc (.cells #[.slice A0 dur.length c0, .slice A1 pend.length c1] 32)).alloc (.cells #[.slice none 0 0, .slice none 0 0] 32) = W2 := ⟨_, rfl⟩
    rw [hW2]
    have B2 : Below w.heap.size w W2 := by rw [← hW2]; exact ((Below.refl _ w).alloc (Nat.le_refl _) _).alloc (by simp) _
    have s2 : W2.heap.size = w.heap.size + 2 := by rw [← hW2]; simp
    have bk0 : Blk W2 w.heap.size 32 #[.slice A0 dur.length c0, .slice A1 pend.length c1] := by rw [← hW2]; exact (Blk.new w _ _).alloc _
    have bk1 : Blk W2 (w.heap.size + 1) 32 #[.slice none 0 0, .slice none 0 0] := by rw [← hW2]; simpa using Blk.new (w.alloc (.cells #[.slice A0 dur.length c0, .slice A1 pend.length c1] 32)) 32 #[.slice none 0 0, .slice none 0 0]
    clear hW2
    have S2 := Lib.hid s2
    have l0 := bk0.lt
    have l1 := bk1.lt
    have k0 := bk0.cell 0
    have k1 := bk0.cell 1
    simp at k0 k1
    have HK := Lib.hid (And.intro B2 (And.intro bk0 bk1))
    clear s2 B2 bk0 bk1
    have own0 : ∀ X : World, W2.heap.size ≤ X.heap.size → (X.alloc (.cells #[] 81)).drew.ownsRow W2.heap.size 81 2 (.slice (some ⟨X.heap.size, 0, none⟩) 0 0) 0 [] := fun X hX => (World.ownsRow_lit X #[] 0 hX (by decide) rfl).drew
    go_region_held3 (fun w' => w'.cell? ⟨w.heap.size, 0, none⟩ = some (.slice A0 dur.length c0) ∧ w'.cell? ⟨w.heap.size, 1, none⟩ = some (.slice A1 pend.length c1))
      (first
        | exact ⟨kz0, kz1⟩
        | exact ⟨kk0, kk1⟩
        | go_keep)
      (first
        | (refine app_step _ _ _ _ (by rfl) (by rfl) 81 (.agg #[.int .i64 0, .string ⟨#[]⟩]) 2 24 W2.heap.size Try.underlying30 info_pd rfl (by decide) _ 0 [] A1 pend.length c1 (wrs pend) (by rfl) (by rfl) (by (first | exact own0 W2 (Nat.le_refl _) | exact ((World.ownsRow_lit W2 #[] 0 (Nat.le_refl _) (by decide) rfl).alloc _).drew | (have q := own0 (W2.alloc (.cells #[.int .i64 q, .string ⟨x.toArray⟩] 81)) (by simp); rw [World.size_alloc] at q; exact q))) HN.out.2.2.2.1 (by (first | exact HN.out.2.2.2.2.2.below ((HK.out.1.alloc HK.out.1.size _).drew) | exact HN.out.2.2.2.2.2.below (((HK.out.1.alloc HK.out.1.size _).alloc (by have := HK.out.1.size; (first | (simp; done) | (simp; omega))) _).drew))) HN.out.1 HN.out.2.1 bb1 bb2 (by (first | (simp; done) | (simp; omega))) ?_
           intro v' X own' g0
           have g' : World.grownBy _ X (some _) := g0
           clear g0
           have BX : Below W2.heap.size W2 X := by (first | exact (((Below.refl _ W2).alloc (Nat.le_refl _) _).drew).grown g' (by (first | (simp; done) | (simp; omega))) (fun k hk => by injection hk with hk; simp at hk; omega) | exact (((((Below.refl _ W2).alloc (Nat.le_refl _) _).alloc (by (first | (simp; done) | (simp; omega))) _).drew)).grown g' (by (first | (simp; done) | (simp; omega))) (fun k hk => by injection hk with hk; simp at hk; omega))
           rw [Nat.zero_add, List.nil_append] at own'
           obtain ⟨A', c', rfl, _, _⟩ := own_form own'
           have kk0 := below_cell BX k0
           have kk1 := below_cell BX k1
           have bx1 := HK.out.2.2.below BX
           have lx1 := bx1.lt
           have rq : Rd (X.alloc (.cells #[.int .i64 q, .string ⟨x.toArray⟩] 81)) (some ⟨X.heap.size, 0, none⟩) [.int .i64 q, .string ⟨x.toArray⟩] := rd_new2 X _ _ _
           have ownq := own'.alloc (.cells #[.int .i64 q, .string ⟨x.toArray⟩] 81)
           have BQ : Below W2.heap.size W2 (X.alloc (.cells #[.int .i64 q, .string ⟨x.toArray⟩] 81)) := BX.alloc BX.size _
           try (have rp : Rd X (some ⟨W2.heap.size, 0, none⟩) [.int .i64 q, .string ⟨x.toArray⟩] := (rd_new2 W2 (.int .i64 q) (.string ⟨x.toArray⟩) 81).mod ((((Mod.refl (fun k => k = W2.heap.size + 1) (W2.alloc (.cells #[.int .i64 q, .string ⟨x.toArray⟩] 81))).alloc _).drew).grown g' (fun k hk hlt => by injection hk with hk; simp at hk; omega)) (fun p hp => by injection hp with hp; subst hp; simp))
           try (have rs : Rd X (some ⟨W2.heap.size + 1, 0, none⟩) [.int .i64 q, .string ⟨x.toArray⟩] := (by have r0 := rd_new2 (W2.alloc (.cells #[] 81)) (.int .i64 q) (.string ⟨x.toArray⟩) 81; rw [World.size_alloc] at r0; exact r0.mod ((((Mod.refl (fun k => k = W2.heap.size) ((W2.alloc (.cells #[] 81)).alloc (.cells #[.int .i64 q, .string ⟨x.toArray⟩] 81)))).drew).grown g' (fun k hk hlt => by injection hk with hk; simp at hk; omega)) (fun p hp => by injection hp with hp; subst hp; simp))))
        | (refine app_step _ _ _ _ (by rfl) (by rfl) 81 (.agg #[.int .i64 0, .string ⟨#[]⟩]) 2 24 W2.heap.size Try.underlying30 info_pd rfl (by decide) (.slice A' pend.length c') pend.length (wrs pend) _ 1 1 [.int .i64 q, .string ⟨x.toArray⟩] (by rfl) (by rfl) (by (first | exact own' | exact ownq)) (fun h => by cases h) (by (first | exact rp | exact rs | exact rq)) rfl (by simp [Value.oneCell']) bb3 bb4 (by (first | exact BX.size | exact BQ.size)) ?_
           intro v2 Y own2 g2
           have BY : Below W2.heap.size W2 Y := by (first | exact BX.grown g2 BX.size (fun k hk => (own'.lt k hk).1) | exact BQ.grown g2 BQ.size (fun k hk => (own'.lt k hk).1))
           obtain ⟨A2, c2, rfl, _, _⟩ := own_form own2
           have kz0 := below_cell BY k0
           have kz1 := below_cell BY k1
           have by1 := HK.out.2.2.below BY
           have fy := fun i => by1.frozen i
           have cy0 := by1.cell 0
           have cy1 := by1.cell 1
           simp at cy0 cy1))
    all_goals (
      go_wp2
      have e0 := ((by1.set_ 0 (.slice A0 dur.length c0)).set_ 1 (.slice A2 (pend.length + 1) c2)).cell 0
      have e1 := ((by1.set_ 0 (.slice A0 dur.length c0)).set_ 1 (.slice A2 (pend.length + 1) c2)).cell 1
      simp at e0 e1
      refine bodyPost_ret (v := .tuple #[.agg #[.slice A0 dur.length c0, .slice A2 (pend.length + 1) c2], .int .i64 0]) (by simp [results, Try.results36, go_sem, e0, e1]) rfl ?_
      obtain ⟨g, hA2, _⟩ := own_some own2 (by omega)
      have hBZ : Below w.heap.size w ((Y.setCell ⟨w.heap.size + 1, 0, none⟩ (.slice A0 dur.length c0)).setCell ⟨w.heap.size + 1, 1, none⟩ (.slice A2 (pend.length + 1) c2)) := ((HK.out.1.trans (BY.mono HK.out.1.size)).setCell (p := ⟨w.heap.size + 1, 0, none⟩) (by simp) _).setCell (p := ⟨w.heap.size + 1, 1, none⟩) (by simp) _
      refine ⟨_, rfl, ⟨A0, c0, A2, c2, by simp, HN.out.2.2.2.2.1.below hBZ, ?_, HN.out.2.2.1, fun h => by rw [hA2] at h; cases h⟩, hBZ, fun G hG => InG.mk (fun p hp => .inl ((hG _ _ _ _ _ _ rfl).1 p hp)) (fun p hp => ?_)⟩
      have hf2 := mod_owns_ne (d := w.heap.size + 1) (i := 1) (u := .slice A2 (pend.length + 1) c2) (mod_owns_ne (d := w.heap.size + 1) (i := 0) (u := .slice A0 dur.length c0) own2 (fun hk => by have := (own2.lt _ hk).1; omega)) (fun hk => by have := (own2.lt _ hk).1; omega)
      · have := Rd.of_own hf2
        simpa [wrs] using this
      · rw [hA2] at hp
        injection hp with hp
        subst hp
        have q1 := own2.lt g (by rw [hA2]; rfl)
        have q2 := HK.out.1.size
        exact .inr ⟨by show w.heap.size ≤ g; omega, by show g < _; simp [World.setCell]; omega⟩)
  · have he : Dk.wErr dur q x = 1 := by unfold Dk.wErr; rw [if_neg hp, if_neg hl]
    rw [show Dk.wPend dur pend q x = pend from by unfold Dk.wPend; rw [he]; rfl, he]
    have hl1 : ((x.length : Int) != 512) = true := by simp; omega
    have HH := Lib.hid hh
    clear hh he r0 r1 n0 n1 hl hp
    go_enter Try.func36, Try.ntmps36
    go_wp2
    refine bodyPost_ret (v := .tuple #[.agg #[.slice A0 dur.length c0, .slice A1 pend.length c1], .int .i64 1]) (by simp [results, Try.results36, go_sem]) rfl ?_
    have hb : Below w.heap.size w ((w.alloc (.cells #[.slice A0 dur.length c0, .slice A1 pend.length c1] 32)).alloc (.cells #[.slice A0 dur.length c0, .slice A1 pend.length c1] 32)) := ((Below.refl _ w).alloc (Nat.le_refl _) _).alloc (by simp) _
    exact ⟨_, rfl, HH.out.below hb, hb, Kept.same _ _ _⟩
end Go.Proofs.Ytepdfeegklinfaa
