/-
  What is read of all pages (image, of the program and of the reference); the reference's Sync and Do. Conditions: at most 2^40 pending writes, 4096 pages.
-/
import Derived.Test.YtepdfeegklinfaaDkS
import Derived.Test.YtepdfeegklinfaaDkF
namespace Go.Proofs.Ytepdfeegklinfaa
set_option linter.unusedVariables false
open Go.RowKit Go.ChangeMaps Go.MapKept

/-- a list of strings, as a value -/
def SlP (l : List Dk.Str) (w : World) (e : Ending) (w' : World) : Prop := ∃ A c, e = .returned (.slice A l.length c) ∧ Rd w' A (strs l) ∧ Below w.heap.size w w'
/-- .. in memory of its own -/
def SlO (l : List Dk.Str) (w : World) (e : Ending) (w' : World) : Prop := ∃ A c, e = .returned (.slice A l.length c) ∧ w'.ownsRow w.heap.size 9 1 (.slice A l.length c) l.length (strs l) ∧ Below w.heap.size w w'
theorem image_take (f : Nat → Dk.Str) (n k : Nat) (hk : k < n) : ((List.range n).map f).take (k + 1) = ((List.range n).map f).take k ++ [f k] := by
  rw [List.take_succ_eq_append_getElem (by simpa using hk)]
  simp
theorem image_length (dur : List Dk.Str) (pend : List Dk.Wr) : (Dk.image dur pend).length = dur.length := by simp [Dk.image]
/-- a page is read -/
theorem read_cases (dur : List Dk.Str) (pend : List Dk.Wr) (k : Nat) (hk : k < dur.length) : (Dk.read dur pend k = ([], 21) ∧ Dk.cont dur pend k = Dk.unread) ∨ Dk.read dur pend k = (Dk.cont dur pend k, 0) := by
  unfold Dk.read
  rw [if_neg (by omega)]
  simp only [Int.toNat_natCast]
  by_cases h : Dk.cont dur pend k = Dk.unread
  · left; rw [if_pos h]; exact ⟨rfl, h⟩
  · right; rw [if_neg h]

set_option maxRecDepth 20000 in
set_option maxHeartbeats 2000000 in
theorem image_own (F : Nat → Prop) (d : Nat) (S : Dk.Ds) (w : World) (h : Dsk w F d S) (hd : S.dur.length ≤ 4096) :
    Calls Try.prog 18 #[.pointer (some ⟨d, 0, none⟩)] w (SlO (Dk.image S.dur S.pend) w) := by
  have hfb := h.fb
  go_enter Try.func18, Try.ntmps18
  go_wp2_with fail
  refine (pages_spec F d S w h).mono ?_
  rintro e w' ⟨rfl, rfl⟩
  go_wp2
  go_loopw [3, 9] (fun s i wr => ∃ k : Nat, k ≤ S.dur.length ∧ i = .int .i64 k ∧ wr.ownsRow w.heap.size 9 1 s k (strs ((Dk.image S.dur S.pend).take k)) ∧ Below w.heap.size w wr) (fun _ i _ => S.dur.length - (intOf i).toNat)
  case atStart => exact ⟨0, Nat.zero_le _, rfl, ⟨rfl, .inl ⟨rfl, rfl⟩⟩, Below.refl _ _⟩
  case round =>
    obtain ⟨k, hk, rfl, own, hbe⟩ := hrel
    obtain ⟨A, c, rfl, hc1, hc2⟩ := own_form own
    have hsz := hbe.size
    by_cases hlt : k < S.dur.length
    · have hD := h.mod (Mod.of_below hbe (fun _ => False)) (fun _ _ h => h)
      have hr := read_spec F d S k wr hD
      have hst := image_take (Dk.cont S.dur S.pend) S.dur.length k hlt
      have b1 : (k + 1) * 16 ≤ 140737488355328 := by omega
      have b2 : k + 1 ≤ maxLen := by unfold maxLen; omega
      have hkd : (k : Int) < (S.dur.length : Int) := by omega
      have HO := Lib.hid (And.intro own (And.intro hbe (And.intro hst hc1)))
      clear own hbe hst hD
      rcases read_cases S.dur S.pend k hlt with ⟨e1, e2⟩ | e1
      · rw [e1] at hr
        have HE := Lib.hid e2
        clear e1 e2
        go_wp2_with fail
        refine hr.mono ?_
        rintro e w' ⟨rfl, rfl⟩
        clear hr
        go_wp2_with (at_builtin; go_must (refine append1 _ 29 9 (.string ⟨#[]⟩) 16 w.heap.size Try.underlying29 info_str rfl rfl _ _ rfl _ _ _ _ _ (HO.out.1.alloc _) rfl rfl (one_new _ _ _) rfl b1 b2 (by simp; omega) ?_); intro v' w1 hown1 hg1)
        go_roundw
        case rel =>
          refine ⟨k + 1, by omega, by go_num, ?_, (HO.out.2.1.alloc hsz _).grown hg1 (by simp; omega) (fun k hk => (HO.out.1.lt k hk).1)⟩
          have e := HO.out.2.2.1
          unfold Dk.image
          rw [e, HE.out]
          simpa [strs, Dk.image, Dk.unread] using hown1
        case measure => simp [intOf]; omega
      · rw [e1] at hr
        clear e1
        obtain ⟨y, hy⟩ : ∃ y, Dk.cont S.dur S.pend k = y := ⟨_, rfl⟩
        rw [hy] at hr
        have HE := Lib.hid hy
        clear hy
        go_wp2_with fail
        refine hr.mono ?_
        rintro e w' ⟨rfl, rfl⟩
        clear hr
        go_wp2_with (at_builtin; go_must (refine append1 _ 29 9 (.string ⟨#[]⟩) 16 w.heap.size Try.underlying29 info_str rfl rfl _ _ rfl _ _ _ _ _ (HO.out.1.alloc _) rfl rfl (one_new _ _ _) rfl b1 b2 (by simp; omega) ?_); intro v' w1 hown1 hg1)
        go_roundw
        case rel =>
          refine ⟨k + 1, by omega, by go_num, ?_, (HO.out.2.1.alloc hsz _).grown hg1 (by simp; omega) (fun k hk => (HO.out.1.lt k hk).1)⟩
          have e := HO.out.2.2.1
          unfold Dk.image
          rw [e, HE.out]
          simpa [strs, Dk.image] using hown1
        case measure => simp [intOf]; omega
    · obtain rfl : k = S.dur.length := by omega
      have hfull : (Dk.image S.dur S.pend).take S.dur.length = Dk.image S.dur S.pend := by rw [← image_length S.dur S.pend, List.take_length]
      rw [hfull] at own
      have HO := Lib.hid (And.intro own hbe)
      clear own hbe
      go_wp2
      go_ret
      exact ⟨A, c, by rw [image_length]; rfl, by rw [image_length]; exact HO.out.1, HO.out.2⟩
theorem image_spec (F : Nat → Prop) (d : Nat) (S : Dk.Ds) (w : World) (h : Dsk w F d S) (hd : S.dur.length ≤ 4096) :
    Calls Try.prog 18 #[.pointer (some ⟨d, 0, none⟩)] w (SlP (Dk.image S.dur S.pend) w) :=
  (image_own F d S w h hd).mono fun e w' ⟨A, c, he, ho, hb⟩ => ⟨A, c, he, Rd.of_own ho, hb⟩

set_option maxRecDepth 20000 in
set_option maxHeartbeats 2000000 in
theorem rimage_spec (v : Value) (dur : List Dk.Str) (pend : List Dk.Wr) (w : World) (h : RV w v dur pend) (hd : dur.length ≤ 4096) (hP : pend.length ≤ 1099511627776) :
    Calls Try.prog 19 #[v] w (SlP (Dk.image dur pend) w) := by
  have hh := h
  obtain ⟨A0, c0, A1, c1, rfl, r0, r1, n0, n1⟩ := h
  have HH := Lib.hid hh
  clear hh r0 r1 n0 n1
  go_enter Try.func19, Try.ntmps19
  go_wp2
  go_loopw [3, 4] (fun s i wr => ∃ k : Nat, k ≤ dur.length ∧ i = .int .i64 k ∧ wr.ownsRow (w.heap.size + 1) 9 1 s k (strs ((Dk.image dur pend).take k)) ∧ Blk wr w.heap.size 32 #[.slice A0 dur.length c0, .slice A1 pend.length c1] ∧ Below w.heap.size w wr) (fun _ i _ => dur.length - (intOf i).toNat)
  case atStart => exact ⟨0, Nat.zero_le _, rfl, ⟨rfl, .inl ⟨rfl, rfl⟩⟩, Blk.new _ _ _, (Below.refl _ _).alloc (Nat.le_refl _) _⟩
  case round =>
    obtain ⟨k, hk, rfl, own, bk, hbe⟩ := hrel
    obtain ⟨A, c, rfl, hc1, hc2⟩ := own_form own
    have hsz := hbe.size
    have k0 := bk.cell 0
    have k1 := bk.cell 1
    simp at k0 k1
    have hbl := bk.lt
    by_cases hlt : k < dur.length
    · have hr := rread_spec _ dur pend k wr (HH.out.below hbe) hd hP
      have hst := image_take (Dk.cont dur pend) dur.length k hlt
      have b1 : (k + 1) * 16 ≤ 140737488355328 := by omega
      have b2 : k + 1 ≤ maxLen := by unfold maxLen; omega
      have hkd : (k : Int) < (dur.length : Int) := by omega
      have HO := Lib.hid (And.intro own (And.intro hbe (And.intro hst (And.intro hc1 bk))))
      clear own hbe hst bk
      rcases read_cases dur pend k hlt with ⟨e1, e2⟩ | e1
      · rw [e1] at hr
        have HE := Lib.hid e2
        clear e1 e2
        go_wp2_with fail
        refine hr.mono ?_
        rintro e w' ⟨rfl, hb2⟩
        clear hr
        have ow2 := below_owns hb2 HO.out.1
        go_wp2_with (at_builtin; go_must (refine append1 _ 29 9 (.string ⟨#[]⟩) 16 (w.heap.size + 1) Try.underlying29 info_str rfl rfl _ _ rfl _ _ _ _ _ (ow2.alloc _) rfl rfl (one_new _ _ _) rfl b1 b2 (by have := hb2.size; simp; omega) ?_); intro v' w1 hown1 hg1)
        go_roundw
        case rel =>
          have hbW : Below (w.heap.size + 1) wr w1 := ((hb2.mono (by omega)).alloc (by have := hb2.size; omega) _).grown hg1 (by have := hb2.size; simp; omega) (fun k hk => (ow2.lt k hk).1)
          have bk2 := HO.out.2.2.2.2.mod (mod_below hbW) (fun (e : w.heap.size + 1 ≤ w.heap.size) => by omega)
          refine ⟨k + 1, by omega, by go_num, ?_, bk2, HO.out.2.1.trans (hbW.mono (by omega))⟩
          have e := HO.out.2.2.1
          unfold Dk.image
          rw [e, HE.out]
          simpa [strs, Dk.image, Dk.unread] using hown1
        case measure => simp [intOf]; omega
      · rw [e1] at hr
        clear e1
        obtain ⟨y, hy⟩ : ∃ y, Dk.cont dur pend k = y := ⟨_, rfl⟩
        rw [hy] at hr
        have HE := Lib.hid hy
        clear hy
        go_wp2_with fail
        refine hr.mono ?_
        rintro e w' ⟨rfl, hb2⟩
        clear hr
        have ow2 := below_owns hb2 HO.out.1
        go_wp2_with (at_builtin; go_must (refine append1 _ 29 9 (.string ⟨#[]⟩) 16 (w.heap.size + 1) Try.underlying29 info_str rfl rfl _ _ rfl _ _ _ _ _ (ow2.alloc _) rfl rfl (one_new _ _ _) rfl b1 b2 (by have := hb2.size; simp; omega) ?_); intro v' w1 hown1 hg1)
        go_roundw
        case rel =>
          have hbW : Below (w.heap.size + 1) wr w1 := ((hb2.mono (by omega)).alloc (by have := hb2.size; omega) _).grown hg1 (by have := hb2.size; simp; omega) (fun k hk => (ow2.lt k hk).1)
          have bk2 := HO.out.2.2.2.2.mod (mod_below hbW) (fun (e : w.heap.size + 1 ≤ w.heap.size) => by omega)
          refine ⟨k + 1, by omega, by go_num, ?_, bk2, HO.out.2.1.trans (hbW.mono (by omega))⟩
          have e := HO.out.2.2.1
          unfold Dk.image
          rw [e, HE.out]
          simpa [strs, Dk.image] using hown1
        case measure => simp [intOf]; omega
    · obtain rfl : k = dur.length := by omega
      have hfull : (Dk.image dur pend).take dur.length = Dk.image dur pend := by rw [← image_length dur pend, List.take_length]
      rw [hfull] at own
      have HO := Lib.hid (And.intro own hbe)
      clear own hbe bk
      go_wp2
      go_ret
      exact ⟨A, c, by rw [image_length]; rfl, Rd.of_own HO.out.1, HO.out.2⟩

theorem blk_cellq {w : World} {g : Nat} {t : TypeId} {cs : Array Value} (h : Blk w g t cs) (i : Nat) : w.cell? ⟨g, i, none⟩ = cs[i]? := by
  unfold World.cell?
  rw [h]
  rfl
/-- a row whose elements do not lie in a block is not turned by a store to this block -/
theorem Rd.far {w : World} {A : Option Addr} {L : List Value} (h : Rd w A L) {g : Nat} {t : TypeId} {cs : Array Value} (hb : Blk w g t cs) (hne : ∀ u ∈ L, u ∉ cs) (i : Nat) (u : Value) : Rd (w.setCell ⟨g, i, none⟩ u) A L := by
  rcases h with h | ⟨b, off, hA, hc⟩
  · exact .inl h
  · refine .inr ⟨b, off, hA, fun j hj => ?_⟩
    by_cases e : b = g
    · subst e
      have := hc j hj
      rw [blk_cellq hb] at this
      exact absurd (Array.mem_of_getElem? this) (hne _ (List.getElem_mem hj))
    · have := hc j hj
      exact (World.cell?_setCell_far _ _ _ _ (fun h => e h.symm)).trans this
def isSl : Value → Bool
  | .slice _ _ _ => true
  | _ => false
theorem strs_nosl (l : List Dk.Str) : ∀ u ∈ strs l, isSl u = false := by intro u hu; simp [strs] at hu; obtain ⟨x, _, rfl⟩ := hu; rfl
theorem wrs_nosl (l : List Dk.Wr) : ∀ u ∈ wrs l, isSl u = false := by intro u hu; simp [wrs] at hu; obtain ⟨x, y, _, rfl | rfl⟩ := hu <;> rfl
theorem nosl_not {L : List Value} {a b c d : _} {n m : Nat} (h : ∀ u ∈ L, isSl u = false) : ∀ u ∈ L, u ∉ (#[.slice a n c, .slice b m d] : Array Value) := by
  intro u hu hm
  have := h u hu
  simp at hm
  rcases hm with rfl | rfl <;> cases this
/-- the result's cell is written -/
theorem rv_put {w : World} {dur : List Dk.Str} {pend : List Dk.Wr} {A0 A1 : Option Addr} {c0 c1 l0 l1 g : Nat} {t : TypeId} {a b : Option Addr} {n m c d : Nat} (h : RV w (.agg #[.slice A0 l0 c0, .slice A1 l1 c1]) dur pend) (hb : Blk w g t #[.slice a n c, .slice b m d]) :
    RV ((w.setCell ⟨g, 0, none⟩ (.slice A0 l0 c0)).setCell ⟨g, 1, none⟩ (.slice A1 l1 c1)) (.agg #[.slice A0 l0 c0, .slice A1 l1 c1]) dur pend := by
  obtain ⟨B0, d0, B1, d1, he, r0, r1, n0, n1⟩ := h
  injection he with he
  simp at he
  obtain ⟨⟨rfl, rfl, rfl⟩, rfl, rfl, rfl⟩ := he
  have hb2 : Blk (w.setCell ⟨g, 0, none⟩ (.slice A0 dur.length c0)) g t #[.slice A0 dur.length c0, .slice b m d] := by simpa using hb.set_ 0 (.slice A0 dur.length c0)
  exact ⟨A0, c0, A1, c1, rfl, (r0.far hb (nosl_not (strs_nosl _)) 0 _).far hb2 (nosl_not (strs_nosl _)) 1 _, (r1.far hb (nosl_not (wrs_nosl _)) 0 _).far hb2 (nosl_not (wrs_nosl _)) 1 _, n0, n1⟩

set_option maxRecDepth 20000 in
set_option maxHeartbeats 2000000 in
theorem rsync_spec (v : Value) (dur : List Dk.Str) (pend : List Dk.Wr) (w : World) (h : RV w v dur pend) (hok : ∀ y ∈ pend, y.1 < dur.length) (hd : dur.length ≤ 4096) (hP : pend.length ≤ 1099511627776) :
    Calls Try.prog 28 #[v] w (RvQ v (Dk.syncD dur pend) [] w) := by
  have hh := h
  obtain ⟨A0, c0, A1, c1, rfl, r0, r1, n0, n1⟩ := h
  have HH := Lib.hid hh
  clear hh r0 r1 n0 n1
  go_enter Try.func28, Try.ntmps28
  go_wp2_with fail
  obtain ⟨W3, hW3⟩ : ∃ W3, ((w.alloc (.cells #[.slice A0 dur.length c0, .slice A1 pend.length c1] 32)).alloc (.cells #[.slice none 0 0, .slice none 0 0] 32)).alloc (.cells #[.int .i64 1] 3) = W3 := ⟨_, rfl⟩
  rw [hW3]
  have B3 : Below w.heap.size w W3 := by rw [← hW3]; exact (((Below.refl _ w).alloc (Nat.le_refl _) _).alloc (by simp) _).alloc (by simp; omega) _
  have bk1 : Blk W3 (w.heap.size + 1) 32 #[.slice none 0 0, .slice none 0 0] := by
    rw [← hW3]
    have q := Blk.new (w.alloc (.cells #[.slice A0 dur.length c0, .slice A1 pend.length c1] 32)) 32 #[.slice none 0 0, .slice none 0 0]
    rw [World.size_alloc] at q
    exact q.alloc _
  have hR : Rd W3 (some ⟨w.heap.size + 2, 0, none⟩) (ints [1]) := by
    refine .inr ⟨w.heap.size + 2, 0, rfl, fun j hj => ?_⟩
    have hb := Blk.new ((w.alloc (.cells #[.slice A0 dur.length c0, .slice A1 pend.length c1] 32)).alloc (.cells #[.slice none 0 0, .slice none 0 0] 32)) 3 #[.int .i64 1]
    rw [World.size_alloc, World.size_alloc, hW3] at hb
    match j, hj with
    | 0, _ => exact hb.cell 0
  clear hW3
  refine (rcrash_spec _ dur pend (some ⟨w.heap.size + 2, 0, none⟩) [1] 1 W3 (HH.out.below B3) hok hR (fun h => by cases h) (by simp) hd hP).mono ?_
  rintro e w' ⟨v', rfl, ⟨A2, c2, A3, c3, rfl, q0, q1, m0, m1⟩, hb, hG⟩
  rw [Dk.crash_one] at q0 m0
  rw [Dk.crashD_length]
  have bk2 := bk1.below hb
  have hbl := bk2.lt
  have f1 := fun i => bk2.frozen i
  have k0 := bk2.cell 0
  have k1 := bk2.cell 1
  simp at k0 k1
  have HN := Lib.hid (And.intro (B3.trans (hb.mono B3.size)) (And.intro bk2 (And.intro q0 (And.intro q1 (And.intro m0 (And.intro m1 (And.intro hG (And.intro B3.size hb.size))))))))
  clear bk1 bk2 hb B3 hR q0 q1 m0 m1 hG
  go_wp2
  obtain ⟨hb, bk2, q0, q1, m0, m1, hG, hB, hbs⟩ := HN.out
  have e0 := ((bk2.set_ 0 (.slice A2 dur.length c2)).set_ 1 (.slice A3 0 c3)).cell 0
  have e1 := ((bk2.set_ 0 (.slice A2 dur.length c2)).set_ 1 (.slice A3 0 c3)).cell 1
  simp at e0 e1
  refine bodyPost_ret (v := .agg #[.slice A2 dur.length c2, .slice A3 0 c3]) (by simp [results, Try.results28, go_sem, e0, e1]) rfl ?_
  have hbz : Below w.heap.size w ((w'.setCell ⟨w.heap.size + 1, 0, none⟩ (.slice A2 dur.length c2)).setCell ⟨w.heap.size + 1, 1, none⟩ (.slice A3 0 c3)) := (hb.setCell (p := ⟨w.heap.size + 1, 0, none⟩) (by simp) _).setCell (p := ⟨w.heap.size + 1, 1, none⟩) (by simp) _
  have hl : dur.length = (Dk.syncD dur pend).length := (Dk.syncD_length _ _).symm
  rw [Dk.crash_one] at hG
  rw [hl] at hG hbz e0 e1 ⊢
  exact ⟨_, rfl, rv_put (pend := []) ⟨A2, c2, A3, c3, rfl, q0, q1, m0, m1⟩ bk2, hbz, hG.wide hB (Nat.le_of_eq (by simp [World.setCell]))⟩

/-- the reference's Do, as a value -/
def rdoD (dur : List Dk.Str) (pend : List Dk.Wr) (o : Dk.Op) : List Dk.Str := if o.sync then Dk.syncD dur pend else dur
def rdoP (dur : List Dk.Str) (pend : List Dk.Wr) (o : Dk.Op) : List Dk.Wr := if o.sync then [] else Dk.wPend dur pend o.page o.data
def rdoE (dur : List Dk.Str) (o : Dk.Op) : Int := if o.sync then 0 else Dk.wErr dur o.page o.data
def opV (o : Dk.Op) : Value := .agg #[.int .i64 o.page, .string ⟨o.data.toArray⟩, .bool o.sync]
set_option maxRecDepth 20000 in
set_option maxHeartbeats 2000000 in
theorem rdo_spec (v : Value) (dur : List Dk.Str) (pend : List Dk.Wr) (o : Dk.Op) (w : World) (h : RV w v dur pend) (hok : ∀ y ∈ pend, y.1 < dur.length) (hd : dur.length ≤ 4096) (hP : pend.length ≤ 1099511627776) :
    Calls Try.prog 45 #[v, opV o] w (RvP v (rdoD dur pend o) (rdoP dur pend o) (rdoE dur o) w) := by
  have hh := h
  obtain ⟨A0, c0, A1, c1, rfl, r0, r1, n0, n1⟩ := h
  obtain ⟨p, x, sy⟩ := o
  have HH := Lib.hid hh
  clear hh r0 r1 n0 n1
  unfold opV rdoD rdoP rdoE
  dsimp only
  obtain ⟨W4, hW4⟩ : ∃ W4, ((w.alloc (.cells #[.slice A0 dur.length c0, .slice A1 pend.length c1] 32)).alloc (.cells #[.int .i64 p, .string ⟨x.toArray⟩, .bool sy] 38)).alloc (.cells #[.slice none 0 0, .slice none 0 0] 32) = W4 := ⟨_, rfl⟩
  have B4 : Below w.heap.size w W4 := by rw [← hW4]; exact (((Below.refl _ w).alloc (Nat.le_refl _) _).alloc (by simp) _).alloc (by simp; omega) _
  have bk1 : Blk W4 (w.heap.size + 1 + 1) 32 #[.slice none 0 0, .slice none 0 0] := by
    rw [← hW4]
    have q := Blk.new ((w.alloc (.cells #[.slice A0 dur.length c0, .slice A1 pend.length c1] 32)).alloc (.cells #[.int .i64 p, .string ⟨x.toArray⟩, .bool sy] 38)) 32 #[.slice none 0 0, .slice none 0 0]
    rw [World.size_alloc, World.size_alloc] at q
    exact q
  have HB := Lib.hid (And.intro B4 bk1)
  have HW := Lib.hid hW4
  clear B4 bk1 hW4
  cases sy with
  | true =>
    go_enter Try.func45, Try.ntmps45
    go_wp2_with fail
    rw [HW.out]
    refine (rsync_spec _ dur pend W4 (HH.out.below HB.out.1) hok hd hP).mono ?_
    rintro e w' ⟨v', rfl, ⟨A2, c2, A3, c3, rfl, q0, q1, m0, m1⟩, hb, hG⟩
    obtain ⟨B4, bk1⟩ := HB.out
    have bk2 := bk1.below hb
    have hbl := bk2.lt
    have f1 := fun i => bk2.frozen i
    have k0 := bk2.cell 0
    have k1 := bk2.cell 1
    simp at k0 k1
    have HN := Lib.hid (And.intro (B4.trans (hb.mono B4.size)) (And.intro bk2 (And.intro q0 (And.intro q1 (And.intro m0 (And.intro m1 (And.intro hG (And.intro B4.size hb.size))))))))
    clear bk1 bk2 hb B4 q0 q1 m0 m1 hG
    go_wp2
    obtain ⟨hb, bk2, q0, q1, m0, m1, hG, hB, hbs⟩ := HN.out
    have e0 := ((bk2.set_ 0 (.slice A2 (Dk.syncD dur pend).length c2)).set_ 1 (.slice A3 0 c3)).cell 0
    have e1 := ((bk2.set_ 0 (.slice A2 (Dk.syncD dur pend).length c2)).set_ 1 (.slice A3 0 c3)).cell 1
    simp at e0 e1
    refine bodyPost_ret (v := .tuple #[.agg #[.slice A2 (Dk.syncD dur pend).length c2, .slice A3 0 c3], .int .i64 0]) (by simp [results, Try.results45, go_sem, e0, e1]) rfl ?_
    have hbz : Below w.heap.size w ((w'.setCell ⟨w.heap.size + 1 + 1, 0, none⟩ (.slice A2 (Dk.syncD dur pend).length c2)).setCell ⟨w.heap.size + 1 + 1, 1, none⟩ (.slice A3 0 c3)) := (hb.setCell (p := ⟨w.heap.size + 1 + 1, 0, none⟩) (by show w.heap.size ≤ w.heap.size + 1 + 1; omega) _).setCell (p := ⟨w.heap.size + 1 + 1, 1, none⟩) (by show w.heap.size ≤ w.heap.size + 1 + 1; omega) _
    exact ⟨_, rfl, rv_put (pend := []) ⟨A2, c2, A3, c3, rfl, q0, q1, m0, m1⟩ bk2, hbz, hG.wide hB (Nat.le_of_eq (by simp [World.setCell]))⟩
  | false =>
    go_enter Try.func45, Try.ntmps45
    go_wp2_with fail
    rw [HW.out]
    refine (rwrite_spec _ dur pend p x W4 (HH.out.below HB.out.1) hd hP).mono ?_
    rintro e w' ⟨v', rfl, ⟨A2, c2, A3, c3, rfl, q0, q1, m0, m1⟩, hb, hG⟩
    obtain ⟨B4, bk1⟩ := HB.out
    have bk2 := bk1.below hb
    have hbl := bk2.lt
    have f1 := fun i => bk2.frozen i
    have k0 := bk2.cell 0
    have k1 := bk2.cell 1
    simp at k0 k1
    have HN := Lib.hid (And.intro (B4.trans (hb.mono B4.size)) (And.intro bk2 (And.intro q0 (And.intro q1 (And.intro m0 (And.intro m1 (And.intro hG (And.intro B4.size hb.size))))))))
    clear bk1 bk2 hb B4 q0 q1 m0 m1 hG
    go_wp2
    obtain ⟨hb, bk2, q0, q1, m0, m1, hG, hB, hbs⟩ := HN.out
    have e0 := ((bk2.set_ 0 (.slice A2 dur.length c2)).set_ 1 (.slice A3 (Dk.wPend dur pend p x).length c3)).cell 0
    have e1 := ((bk2.set_ 0 (.slice A2 dur.length c2)).set_ 1 (.slice A3 (Dk.wPend dur pend p x).length c3)).cell 1
    simp at e0 e1
    refine bodyPost_ret (v := .tuple #[.agg #[.slice A2 dur.length c2, .slice A3 (Dk.wPend dur pend p x).length c3], .int .i64 (Dk.wErr dur p x)]) (by simp [results, Try.results45, go_sem, e0, e1]) rfl ?_
    have hbz : Below w.heap.size w ((w'.setCell ⟨w.heap.size + 1 + 1, 0, none⟩ (.slice A2 dur.length c2)).setCell ⟨w.heap.size + 1 + 1, 1, none⟩ (.slice A3 (Dk.wPend dur pend p x).length c3)) := (hb.setCell (p := ⟨w.heap.size + 1 + 1, 0, none⟩) (by show w.heap.size ≤ w.heap.size + 1 + 1; omega) _).setCell (p := ⟨w.heap.size + 1 + 1, 1, none⟩) (by show w.heap.size ≤ w.heap.size + 1 + 1; omega) _
    exact ⟨_, rfl, rv_put ⟨A2, c2, A3, c3, rfl, q0, q1, m0, m1⟩ bk2, hbz, hG.wide hB (Nat.le_of_eq (by simp [World.setCell]))⟩
end Go.Proofs.Ytepdfeegklinfaa
