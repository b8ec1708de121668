/-
  Execute of a disk and of its reference; slices.ContainsFunc over operations. Conditions: a plan has at most 1000 operations.
-/
import Derived.Test.YtepdfeegklinfaaDkSep
namespace Go.Proofs.Ytepdfeegklinfaa
set_option linter.unusedVariables false
open Go.RowKit Go.ChangeMaps Go.MapKept

/-- a disk behind a plan, and the error -/
def execS : Dk.Ds → List Dk.Op → Dk.Ds × Int
  | S, [] => (S, 0)
  | S, o :: L => if o.sync then execS (Dk.sync S) L else if Dk.wErr S.dur o.page o.data = 0 then execS (Dk.write S o.page o.data) L else (S, Dk.wErr S.dur o.page o.data)
theorem drop_at {α : Type} (L : List α) (k : Nat) (h : k < L.length) : L.drop k = L[k] :: L.drop (k + 1) := List.drop_eq_getElem_cons h
theorem sync_len (S : Dk.Ds) : (Dk.sync S).dur.length = S.dur.length ∧ (Dk.sync S).pend.length = 0 ∧ (Dk.sync S).recd.length ≤ S.recd.length + 1 := ⟨Dk.syncD_length _ _, rfl, note_len _ _⟩
theorem wErr_cases (dur : List Dk.Str) (p : Int) (x : Dk.Str) : Dk.wErr dur p x = 0 ∨ (Dk.wErr dur p x == 0) = false := by
  by_cases h : Dk.wErr dur p x = 0
  · exact .inl h
  · exact .inr (by rw [beq_eq_false_iff_ne]; exact h)

set_option maxRecDepth 20000 in
set_option maxHeartbeats 2000000 in
theorem s_execute {lo : Nat} {w0 w : World} {Rs : List Res} {d : Nat} {S : Dk.Ds} (A : Option Addr) (L : List Dk.Op) (c : Nat) (h : St lo w0 w (diskR d S :: Rs)) (hR : ∀ {w' S'}, St lo w0 w' (diskR d S' :: Rs) → Rd w' A (ops L))
    (hL : L.length ≤ 1000) (hd : ∀ o ∈ L, o.data.length ≤ 9223372036854775807) (hr : S.recd.length ≤ 1000000) (hp : S.pend.length ≤ 1000000) :
    Calls Try.prog 30 #[.pointer (some ⟨d, 0, none⟩), .slice A L.length c] w fun e w' => e = .returned (.int .i64 (execS S L).2) ∧ St lo w0 w' (diskR d (execS S L).1 :: Rs) := by
  have HI := Lib.hid (fun w' S' (h : St lo w0 w' (diskR d S' :: Rs)) => hR h)
  clear hR
  go_enter Try.func30, Try.ntmps30
  go_wp2
  go_loopw [10] (fun i wr => ∃ (k : Nat) (T : Dk.Ds), k ≤ L.length ∧ i = .int .i64 k ∧ St lo w0 wr (diskR d T :: Rs) ∧ execS S L = execS T (L.drop k) ∧ T.recd.length ≤ 1000000 + k ∧ T.pend.length ≤ 1000000 + k) (fun i _ => L.length - (intOf i).toNat)
  case atStart => exact ⟨0, S, Nat.zero_le _, rfl, h, rfl, by omega, by omega⟩
  case round =>
    obtain ⟨k, T, hk, rfl, h1, he, hr1, hp1⟩ := hrel
    clear h hr hp
    by_cases hlt : k < L.length
    · obtain ⟨b, off, hA, hbl, hcc⟩ := rd_elem opc 3 (fun _ => rfl) (HI.out _ _ h1) hlt (by omega)
      subst hA
      have hc0 := hcc 0 _ rfl
      have hc1 := hcc 1 _ rfl
      have hc2 := hcc 2 _ rfl
      have hdk := hd _ (List.getElem_mem hlt)
      have hdr := drop_at L k hlt
      obtain ⟨o, ho⟩ : ∃ o, L[k] = o := ⟨_, rfl⟩
      rw [ho] at hc0 hc1 hc2 hdk hdr
      simp only [Nat.add_zero] at hc0
      rw [hdr] at he
      have hk1 : (k : Int) < (L.length : Int) := by omega
      have hk0 : (0 : Int) ≤ (k : Int) := by omega
      clear ho hcc hdr
      obtain ⟨p, x, sy⟩ := o
      cases sy with
      | true =>
        have HE := Lib.hid (show execS S L = execS (Dk.sync T) (L.drop (k + 1)) from he)
        obtain ⟨_, hq1, hq2⟩ := sync_len T
        have HQ := Lib.hid hq1
        clear he hq1
        go_wp2_with fail
        refine (s_sync (h1.alloc0 _) (by omega) (by omega)).mono ?_
        rintro e w2 ⟨rfl, h2⟩
        go_wp2
        go_roundw
        case rel => exact ⟨k + 1, _, by omega, by go_num, h2, HE.out, by omega, by have := HQ.out; omega⟩
        case measure => simp [intOf]; omega
      | false =>
        obtain ⟨wl1, wl2, wl3⟩ := write_len T p x
        have HW := Lib.hid wl1
        clear wl1
        rcases wErr_cases T.dur p x with hz | hz
        · have HE := Lib.hid (show execS S L = execS (Dk.write T p x) (L.drop (k + 1)) from by rw [he]; simp [execS, hz])
          clear he
          go_wp2_with fail
          refine (s_write (h1.alloc0 _) p x (by omega) (by omega) hdk).mono ?_
          rintro e w2 ⟨rfl, h2⟩
          rw [hz]
          clear hz
          go_wp2
          go_roundw
          case rel => exact ⟨k + 1, _, by omega, by go_num, h2, HE.out, by omega, by omega⟩
          case measure => simp [intOf]; omega
        · have hne : ¬ Dk.wErr T.dur p x = 0 := by rw [beq_eq_false_iff_ne] at hz; exact hz
          have hsame : Dk.write T p x = T := by unfold Dk.write; rw [if_neg hne]
          have HE := Lib.hid (show execS S L = (T, Dk.wErr T.dur p x) from by rw [he]; simp [execS, hne])
          clear he hne
          go_wp2_with fail
          refine (s_write (h1.alloc0 _) p x (by omega) (by omega) hdk).mono ?_
          rintro e w2 ⟨rfl, h2⟩
          rw [hsame] at h2
          clear hsame
          generalize Dk.wErr T.dur p x = er at hz HE ⊢
          go_wp2
          go_ret
          rw [HE.out]
          exact ⟨rfl, h2⟩
    · obtain rfl : k = L.length := by omega
      rw [List.drop_length] at he
      have HE := Lib.hid (show execS S L = (T, 0) from he)
      clear he
      go_wp2
      go_ret
      rw [HE.out]
      exact ⟨rfl, h1⟩

/-- the guard: does an operation have data of more than 600 bytes? -/
theorem guard_spec (o : Dk.Op) (w : World) (t : Bool) (ht : decide ((600 : Int) < (o.data.length : Int)) = t) :
    Calls Try.prog 32 #[.agg #[.int .i64 o.page, .string ⟨o.data.toArray⟩, .bool o.sync]] w fun e w' => e = .returned (.bool t) ∧ Below w.heap.size w w' := by
  subst ht
  obtain ⟨p, x, sy⟩ := o
  go_enter Try.func32, Try.ntmps32
  go_wp2
  go_ret
  exact ⟨rfl, (Below.refl _ w).alloc (Nat.le_refl _) _⟩
def big (o : Dk.Op) : Bool := decide (600 < o.data.length)
def bigIx (L : List Dk.Op) : Int := match L.findIdx? big with
  | some i => i
  | none => -1
theorem big_ix (L : List Dk.Op) (k : Nat) (hk : k < L.length) (h : ∀ j (hj : j < L.length), j < k → big L[j] = false) (hb : big L[k] = true) : bigIx L = k := by
  have : L.findIdx? big = some k := by
    rw [List.findIdx?_eq_some_iff_getElem]
    exact ⟨hk, hb, fun j hj => by simp [h j (by omega) hj]⟩
  unfold bigIx
  rw [this]
theorem big_none (L : List Dk.Op) (h : ∀ j (hj : j < L.length), big L[j] = false) : bigIx L = -1 := by
  have : L.findIdx? big = none := by
    rw [List.findIdx?_eq_none_iff]
    intro x hx
    obtain ⟨j, hj, rfl⟩ := List.getElem_of_mem hx
    exact h j hj
  unfold bigIx
  rw [this]
set_option maxRecDepth 20000 in
set_option maxHeartbeats 2000000 in
theorem indexfunc_spec (A : Option Addr) (L : List Dk.Op) (c : Nat) (w : World) (hR : Rd w A (ops L)) (hl : L.length ≤ 9223372036854775807) :
    Calls Try.prog 44 #[.slice A L.length c, .func (.func 32) #[] #[]] w fun e w' => e = .returned (.int .i64 (bigIx L)) ∧ Below w.heap.size w w' := by
  have HI := Lib.hid hR
  clear hR
  go_enter Try.func44, Try.ntmps44
  go_wp2
  go_loopw [8] (fun i wr => ∃ k : Nat, k ≤ L.length ∧ i = .int .i64 k ∧ Below w.heap.size w wr ∧ ∀ j (hj : j < L.length), j < k → big L[j] = false) (fun i _ => L.length - (intOf i).toNat)
  case atStart => exact ⟨0, Nat.zero_le _, rfl, Below.refl _ _, fun j hj h => by omega⟩
  case round =>
    obtain ⟨k, hk, rfl, hb, hall⟩ := hrel
    have hs := hb.size
    by_cases hlt : k < L.length
    · obtain ⟨b, off, rfl, hbl, hcc⟩ := rd_elem opc 3 (fun _ => rfl) (HI.out.below hb) hlt (by omega)
      have hc0 := hcc 0 _ rfl
      have hc1 := hcc 1 _ rfl
      have hc2 := hcc 2 _ rfl
      have HA := Lib.hid hall
      obtain ⟨o, ho⟩ : ∃ o, L[k] = o := ⟨_, rfl⟩
      rw [ho] at hc0 hc1 hc2
      simp only [Nat.add_zero] at hc0
      have HO := Lib.hid ho
      have hk1 : (k : Int) < (L.length : Int) := by omega
      have hk0 : (0 : Int) ≤ (k : Int) := by omega
      clear hall ho hcc
      by_cases hbig : 600 < o.data.length
      · go_wp2_with fail
        refine (guard_spec o wr true (by simp; omega)).mono ?_
        rintro e w2 ⟨rfl, hb2⟩
        go_wp2
        go_ret
        have hg : big L[k] = true := by rw [HO.out]; simp [big, hbig]
        rw [big_ix L k hlt HA.out hg]
        exact ⟨rfl, hb.trans (hb2.mono hs)⟩
      · go_wp2_with fail
        refine (guard_spec o wr false (by simp; omega)).mono ?_
        rintro e w2 ⟨rfl, hb2⟩
        go_wp2
        go_roundw
        case rel =>
          refine ⟨k + 1, by omega, by go_num, hb.trans (hb2.mono hs), fun j hj hjk => ?_⟩
          by_cases e : j = k
          · subst e; rw [HO.out]; simp [big]; omega
          · exact HA.out j hj (by omega)
        case measure => simp [intOf]; omega
    · obtain rfl : k = L.length := by omega
      have HA := Lib.hid hall
      clear hall
      go_wp2
      go_ret
      rw [big_none L (fun j hj => HA.out j hj hj)]
      exact ⟨rfl, hb⟩
theorem containsfunc_spec (A : Option Addr) (L : List Dk.Op) (c : Nat) (w : World) (hR : Rd w A (ops L)) (hl : L.length ≤ 9223372036854775807) (t : Bool) (ht : decide (bigIx L ≥ 0) = t) :
    Calls Try.prog 31 #[.slice A L.length c, .func (.func 32) #[] #[]] w fun e w' => e = .returned (.bool t) ∧ Below w.heap.size w w' := by
  go_enter Try.func31, Try.ntmps31
  go_wp2_with fail
  refine (indexfunc_spec A L c w hR hl).mono ?_
  rintro e w2 ⟨rfl, hb⟩
  generalize bigIx L = z at ht ⊢
  go_wp2
  go_ret
  exact ⟨rfl, hb⟩

/-- two references over the same memory -/
def ref2R (v : Value) (dur : List Dk.Str) (pend : List Dk.Wr) (v' : Value) (dur' : List Dk.Str) (pend' : List Dk.Wr) : Res where
  P w F := (refR v dur pend).P w F ∧ (refR v' dur' pend').P w F
  lt h := h.1.2.2
  mod h hm hG := ⟨(refR v dur pend).mod h.1 hm hG, (refR v' dur' pend').mod h.2 hm hG⟩
theorem s_rdo {lo : Nat} {w0 w : World} {Rs : List Res} {v : Value} {S : Dk.Ds} (o : Dk.Op) (h : St lo w0 w (refR v S.dur S.pend :: Rs)) (hok : Dk.Ok S.dur S.pend) (hd : S.dur.length ≤ 4096) (hP : S.pend.length ≤ 1099511627776) :
    Calls Try.prog 45 #[v, .agg #[.int .i64 o.page, .string ⟨o.data.toArray⟩, .bool o.sync]] w fun e w' => ∃ A1 c1 A2 c2, e = .returned (.tuple #[.agg #[.slice A1 (rdoD S.dur S.pend o).length c1, .slice A2 (rdoP S.dur S.pend o).length c2], .int .i64 (rdoE S.dur o)]) ∧
      St lo w0 w' (ref2R v S.dur S.pend (.agg #[.slice A1 (rdoD S.dur S.pend o).length c1, .slice A2 (rdoP S.dur S.pend o).length c2]) (rdoD S.dur S.pend o) (rdoP S.dur S.pend o) :: Rs) := by
  obtain ⟨F, h1, h2, h3⟩ := h.open
  refine (rdo_spec v S.dur S.pend o w h1.1 (fun y hy => (hok y hy).1) hd hP).mono ?_
  rintro e w' ⟨v', rfl, hV, hb, hK⟩
  obtain ⟨A1, c1, A2, c2, rfl, _⟩ := id hV
  have hlt : ∀ k, grow F w w' k → k < w'.heap.size := fun k hk => by
    rcases hk with hk | hk
    · have := h1.2.2 k hk
      have := hb.size
      omega
    · exact hk.2
  exact ⟨A1, c1, A2, c2, rfl, h3 (ref2R v S.dur S.pend _ _ _) (Mod.of_below hb F) (F' := grow F w w') ⟨⟨h1.1.below hb, h1.2.1.mono fun k hk => .inl hk, hlt⟩, hV, hK F h1.2.1, hlt⟩ (fun k hk => by rcases hk with hk | hk; exact .inl hk; exact .inr hk.1)⟩
theorem ok_write {S : Dk.Ds} (h : Dk.Ok S.dur S.pend) (p : Int) (x : Dk.Str) : Dk.Ok (Dk.write S p x).dur (Dk.write S p x).pend := by
  by_cases he : Dk.wErr S.dur p x = 0
  · rw [(write_dp S p x).1, (write_dp S p x).2]
    unfold Dk.wPend
    rw [if_pos he]
    intro y hy
    rcases List.mem_append.1 hy with hy | hy
    · exact h y hy
    · simp at hy
      subst hy
      unfold Dk.wErr at he
      by_cases hp : p < 0 ∨ (S.dur.length : Int) ≤ p
      · rw [if_pos hp] at he; cases he
      · rw [if_neg hp] at he
        by_cases hx : x.length = 512
        · exact ⟨by show p.toNat < _; omega, hx⟩
        · rw [if_neg hx] at he; cases he
  · have : Dk.write S p x = S := by unfold Dk.write; rw [if_neg he]
    rw [this]
    exact h
theorem ok_sync (S : Dk.Ds) : Dk.Ok (Dk.sync S).dur (Dk.sync S).pend := by intro y hy; cases hy
theorem rdo_ok {T : Dk.Ds} {o : Dk.Op} (h : rdoE T.dur o = 0) (hok : Dk.Ok T.dur T.pend) : ∃ T' : Dk.Ds, (rdoD T.dur T.pend o = T'.dur ∧ rdoP T.dur T.pend o = T'.pend ∧ (∀ rest, execS T (o :: rest) = execS T' rest) ∧ T'.dur.length = T.dur.length ∧ Dk.Ok T'.dur T'.pend) ∧ T'.pend.length ≤ T.pend.length + 1 := by
  obtain ⟨p, x, sy⟩ := o
  cases sy with
  | true => exact ⟨Dk.sync T, ⟨rfl, rfl, fun _ => rfl, (sync_len T).1, ok_sync T⟩, by rw [(sync_len T).2.1]; omega⟩
  | false =>
    have h' : Dk.wErr T.dur p x = 0 := h
    exact ⟨Dk.write T p x, ⟨(write_dp T p x).1.symm, (write_dp T p x).2.symm, fun rest => by simp [execS, h'], by rw [(write_dp T p x).1], ok_write hok p x⟩, (write_len T p x).2.1⟩
theorem rdo_no {T : Dk.Ds} {o : Dk.Op} (h : ¬ rdoE T.dur o = 0) (rest : List Dk.Op) : execS T (o :: rest) = (T, rdoE T.dur o) := by
  obtain ⟨p, x, sy⟩ := o
  cases sy with
  | true => exact absurd rfl h
  | false =>
    have h' : ¬ Dk.wErr T.dur p x = 0 := h
    show execS T _ = (T, Dk.wErr T.dur p x)
    simp [execS, h']
set_option maxRecDepth 20000 in
set_option maxHeartbeats 4000000 in
theorem s_rexecute {lo : Nat} {w0 w : World} {Rs : List Res} {S : Dk.Ds} {A1 A2 : Option Addr} {c1 c2 : Nat} (A : Option Addr) (L : List Dk.Op) (c : Nat) (h : St lo w0 w (refR (.agg #[.slice A1 S.dur.length c1, .slice A2 S.pend.length c2]) S.dur S.pend :: Rs)) (hR : Rd w0 A (ops L)) (hlo : lo = w0.heap.size)
    (hL : L.length ≤ 1000) (hok : Dk.Ok S.dur S.pend) (hd : S.dur.length ≤ 4096) (hp : S.pend.length ≤ 1000000) :
    Calls Try.prog 33 #[.agg #[.slice A1 S.dur.length c1, .slice A2 S.pend.length c2], .slice A L.length c] w fun e w' => ∃ A3 c3 A4 c4, e = .returned (.tuple #[.agg #[.slice A3 (execS S L).1.dur.length c3, .slice A4 (execS S L).1.pend.length c4], .int .i64 (execS S L).2]) ∧
      St lo w0 w' (refR (.agg #[.slice A3 (execS S L).1.dur.length c3, .slice A4 (execS S L).1.pend.length c4]) (execS S L).1.dur (execS S L).1.pend :: Rs) := by
  subst hlo
  have HI := Lib.hid hR
  clear hR
  have h1 := (h.alloc 32 #[.slice A1 S.dur.length c1, .slice A2 S.pend.length c2]).alloc 32 #[.slice none 0 0, .slice none 0 0]
  rw [World.size_alloc] at h1
  have hb2 := (h1.front 1 (by simp)).blk.lt
  go_enter Try.func33, Try.ntmps33
  go_wp2
  generalize (w.alloc (.cells #[.slice A1 S.dur.length c1, .slice A2 S.pend.length c2] 32)).alloc (.cells #[.slice none 0 0, .slice none 0 0] 32) = W at h1 hb2 ⊢
  generalize hB : w.heap.size = B at h1 hb2 ⊢
  clear hB
  go_loopw [6] (fun i wr => ∃ (k : Nat) (T : Dk.Ds) (A3 : Option Addr) (c3 : Nat) (A4 : Option Addr) (c4 : Nat), k ≤ L.length ∧ i = .int .i64 k ∧ St w0.heap.size w0 wr (cellsR (B + 1) 32 #[.slice none 0 0, .slice none 0 0] :: cellsR B 32 #[.slice A3 T.dur.length c3, .slice A4 T.pend.length c4] :: refR (.agg #[.slice A3 T.dur.length c3, .slice A4 T.pend.length c4]) T.dur T.pend :: Rs) ∧
    execS S L = execS T (L.drop k) ∧ T.dur.length = S.dur.length ∧ T.pend.length ≤ 1000000 + k ∧ Dk.Ok T.dur T.pend) (fun i _ => L.length - (intOf i).toNat)
  case atStart => exact ⟨0, S, A1, c1, A2, c2, Nat.zero_le _, rfl, h1, rfl, rfl, by omega, hok⟩
  case round =>
    obtain ⟨k, T, A3, c3, A4, c4, hk, rfl, h2, he, hn, hp2, hok2⟩ := hrel
    have hd2 : T.dur.length ≤ 4096 := by omega
    have HN := Lib.hid (And.intro hn hok2)
    clear h h1 hok hn hok2
    have bb := (h2.front 1 (by simp)).blk
    have kB0 := bb.cell 0
    have kB1 := bb.cell 1
    have lB := bb.lt
    have b4 := h2.blk
    have k40 := b4.cell 0
    have k41 := b4.cell 1
    have l4 := b4.lt
    have f4 := fun i => b4.frozen i
    simp at kB0 kB1 k40 k41
    by_cases hlt : k < L.length
    · obtain ⟨b, off, hA, hbl, hcc⟩ := rd_elem opc 3 (fun _ => rfl) (HI.out.below h2.below) hlt (by omega)
      obtain ⟨b', off', hA', hbl', hcc'⟩ := rd_elem opc 3 (fun _ => rfl) HI.out hlt (by omega)
      subst hA
      injection hA' with hA'
      injection hA' with e1 e2
      subst e1
      subst e2
      have hc0 := hcc 0 _ rfl
      have hc1 := hcc 1 _ rfl
      have hc2 := hcc 2 _ rfl
      have hdr := drop_at L k hlt
      obtain ⟨o, ho⟩ : ∃ o, L[k] = o := ⟨_, rfl⟩
      rw [ho] at hc0 hc1 hc2 hdr
      simp only [Nat.add_zero] at hc0
      rw [hdr] at he
      have hk1 : (k : Int) < (L.length : Int) := by omega
      have hk0 : (0 : Int) ≤ (k : Int) := by omega
      have HE := Lib.hid he
      have hcx : ∀ X, Below w0.heap.size w0 X → X.cell? ⟨b, off + k * 3, none⟩ = some (.int .i64 o.page) ∧ X.cell? ⟨b, off + k * 3 + 1, none⟩ = some (.string ⟨o.data.toArray⟩) ∧ X.cell? ⟨b, off + k * 3 + 2, none⟩ = some (.bool o.sync) := fun X hX => by
        rw [ho] at hcc'
        exact ⟨below_cell hX (hcc' 0 _ rfl), below_cell hX (hcc' 1 _ rfl), below_cell hX (hcc' 2 _ rfl)⟩
      have HX := Lib.hid hcx
      clear ho hcc hcc' hdr bb b4 he hcx
      have kS : (wr.drew.cell? ⟨B, 0, none⟩ = some (.slice A3 T.dur.length c3) ∧ wr.drew.cell? ⟨B, 1, none⟩ = some (.slice A4 T.pend.length c4)) ∧ wr.drew.cell? ⟨b, off + k * 3, none⟩ = some (.int .i64 o.page) ∧ wr.drew.cell? ⟨b, off + k * 3 + 1, none⟩ = some (.string ⟨o.data.toArray⟩) ∧ wr.drew.cell? ⟨b, off + k * 3 + 2, none⟩ = some (.bool o.sync) := ⟨⟨kB0, kB1⟩, hc0, hc1, hc2⟩
      have kS0 : (wr.cell? ⟨B, 0, none⟩ = some (.slice A3 T.dur.length c3) ∧ wr.cell? ⟨B, 1, none⟩ = some (.slice A4 T.pend.length c4)) ∧ wr.cell? ⟨b, off + k * 3, none⟩ = some (.int .i64 o.page) ∧ wr.cell? ⟨b, off + k * 3 + 1, none⟩ = some (.string ⟨o.data.toArray⟩) ∧ wr.cell? ⟨b, off + k * 3 + 2, none⟩ = some (.bool o.sync) := ⟨⟨kB0, kB1⟩, hc0, hc1, hc2⟩
      go_wp2_with fail
      have hal : ∀ (X : World) (ob : Obj), ((X.cell? ⟨B, 0, none⟩ = some (.slice A3 T.dur.length c3) ∧ X.cell? ⟨B, 1, none⟩ = some (.slice A4 T.pend.length c4)) ∧ X.cell? ⟨b, off + k * 3, none⟩ = some (.int .i64 o.page) ∧ X.cell? ⟨b, off + k * 3 + 1, none⟩ = some (.string ⟨o.data.toArray⟩) ∧ X.cell? ⟨b, off + k * 3 + 2, none⟩ = some (.bool o.sync)) → (((X.alloc ob).cell? ⟨B, 0, none⟩ = some (.slice A3 T.dur.length c3) ∧ (X.alloc ob).cell? ⟨B, 1, none⟩ = some (.slice A4 T.pend.length c4)) ∧ (X.alloc ob).cell? ⟨b, off + k * 3, none⟩ = some (.int .i64 o.page) ∧ (X.alloc ob).cell? ⟨b, off + k * 3 + 1, none⟩ = some (.string ⟨o.data.toArray⟩) ∧ (X.alloc ob).cell? ⟨b, off + k * 3 + 2, none⟩ = some (.bool o.sync)) := fun X ob h => ⟨⟨below_cell ((Below.refl _ X).alloc (Nat.le_refl _) ob) h.1.1, below_cell ((Below.refl _ X).alloc (Nat.le_refl _) ob) h.1.2⟩, below_cell ((Below.refl _ X).alloc (Nat.le_refl _) ob) h.2.1, below_cell ((Below.refl _ X).alloc (Nat.le_refl _) ob) h.2.2.1, below_cell ((Below.refl _ X).alloc (Nat.le_refl _) ob) h.2.2.2⟩
      have hald : ∀ (X : World) (ob : Obj), ((X.cell? ⟨B, 0, none⟩ = some (.slice A3 T.dur.length c3) ∧ X.cell? ⟨B, 1, none⟩ = some (.slice A4 T.pend.length c4)) ∧ X.cell? ⟨b, off + k * 3, none⟩ = some (.int .i64 o.page) ∧ X.cell? ⟨b, off + k * 3 + 1, none⟩ = some (.string ⟨o.data.toArray⟩) ∧ X.cell? ⟨b, off + k * 3 + 2, none⟩ = some (.bool o.sync)) → (((X.alloc ob).drew.cell? ⟨B, 0, none⟩ = some (.slice A3 T.dur.length c3) ∧ (X.alloc ob).drew.cell? ⟨B, 1, none⟩ = some (.slice A4 T.pend.length c4)) ∧ (X.alloc ob).drew.cell? ⟨b, off + k * 3, none⟩ = some (.int .i64 o.page) ∧ (X.alloc ob).drew.cell? ⟨b, off + k * 3 + 1, none⟩ = some (.string ⟨o.data.toArray⟩) ∧ (X.alloc ob).drew.cell? ⟨b, off + k * 3 + 2, none⟩ = some (.bool o.sync)) := fun X ob h => ⟨⟨below_cell ((Below.refl _ X).alloc (Nat.le_refl _) ob).drew h.1.1, below_cell ((Below.refl _ X).alloc (Nat.le_refl _) ob).drew h.1.2⟩, below_cell ((Below.refl _ X).alloc (Nat.le_refl _) ob).drew h.2.1, below_cell ((Below.refl _ X).alloc (Nat.le_refl _) ob).drew h.2.2.1, below_cell ((Below.refl _ X).alloc (Nat.le_refl _) ob).drew h.2.2.2⟩
      go_region_held3 (fun w' => (w'.cell? ⟨B, 0, none⟩ = some (.slice A3 T.dur.length c3) ∧ w'.cell? ⟨B, 1, none⟩ = some (.slice A4 T.pend.length c4)) ∧ w'.cell? ⟨b, off + k * 3, none⟩ = some (.int .i64 o.page) ∧ w'.cell? ⟨b, off + k * 3 + 1, none⟩ = some (.string ⟨o.data.toArray⟩) ∧ w'.cell? ⟨b, off + k * 3 + 2, none⟩ = some (.bool o.sync))
          (first
            | with_reducible exact kS
            | with_reducible exact kS3
            | with_reducible exact hal _ _ kS
            | with_reducible exact hal _ _ kS3
            | with_reducible exact hald _ _ kS0
            | with_reducible exact kS5
            | fail)
          (first
            | (with_reducible refine (s_rdo o (h2.drew.front 2 (by simp)) HN.out.2 hd2 (by omega)).mono ?_
               rintro e w3 ⟨A5, c5, A6, c6, rfl, h3⟩
               have kb3 := (h3.front 2 (by simp)).blk
               have hx3 := HI.out.below h3.below
               have kS3 : ((w3.cell? ⟨B, 0, none⟩ = some (.slice A3 T.dur.length c3) ∧ w3.cell? ⟨B, 1, none⟩ = some (.slice A4 T.pend.length c4)) ∧ w3.cell? ⟨b, off + k * 3, none⟩ = some (.int .i64 o.page) ∧ w3.cell? ⟨b, off + k * 3 + 1, none⟩ = some (.string ⟨o.data.toArray⟩) ∧ w3.cell? ⟨b, off + k * 3 + 2, none⟩ = some (.bool o.sync)) := ⟨⟨kb3.cell 0, kb3.cell 1⟩, HX.out w3 h3.below⟩)
            | (with_reducible refine (s_rdo o ((h2.alloc 32 #[.slice none 0 0, .slice none 0 0]).drew.front 3 (by simp)) HN.out.2 hd2 (by omega)).mono ?_
               rintro e w3 ⟨A5, c5, A6, c6, rfl, h3⟩
               have kb3 := (h3.front 3 (by simp)).blk
               have kg3 := (h3.front 1 (by simp)).blk
               have kg0 := kg3.cell 0
               have kg1 := kg3.cell 1
               have fg := fun i => kg3.frozen i
               have lg := kg3.lt
               simp at kg0 kg1
               have hx3 := HI.out.below h3.below
               have kS3 : ((w3.cell? ⟨B, 0, none⟩ = some (.slice A3 T.dur.length c3) ∧ w3.cell? ⟨B, 1, none⟩ = some (.slice A4 T.pend.length c4)) ∧ w3.cell? ⟨b, off + k * 3, none⟩ = some (.int .i64 o.page) ∧ w3.cell? ⟨b, off + k * 3 + 1, none⟩ = some (.string ⟨o.data.toArray⟩) ∧ w3.cell? ⟨b, off + k * 3 + 2, none⟩ = some (.bool o.sync)) := ⟨⟨kb3.cell 0, kb3.cell 1⟩, HX.out w3 h3.below⟩
               have kS5 : ((((w3.setCell ⟨wr.heap.size, 0, none⟩ (.slice A5 (rdoD T.dur T.pend o).length c5)).setCell ⟨wr.heap.size, 1, none⟩ (.slice A6 (rdoP T.dur T.pend o).length c6)).cell? ⟨B, 0, none⟩ = some (.slice A3 T.dur.length c3) ∧ ((w3.setCell ⟨wr.heap.size, 0, none⟩ (.slice A5 (rdoD T.dur T.pend o).length c5)).setCell ⟨wr.heap.size, 1, none⟩ (.slice A6 (rdoP T.dur T.pend o).length c6)).cell? ⟨B, 1, none⟩ = some (.slice A4 T.pend.length c4)) ∧ ((w3.setCell ⟨wr.heap.size, 0, none⟩ (.slice A5 (rdoD T.dur T.pend o).length c5)).setCell ⟨wr.heap.size, 1, none⟩ (.slice A6 (rdoP T.dur T.pend o).length c6)).cell? ⟨b, off + k * 3, none⟩ = some (.int .i64 o.page) ∧ ((w3.setCell ⟨wr.heap.size, 0, none⟩ (.slice A5 (rdoD T.dur T.pend o).length c5)).setCell ⟨wr.heap.size, 1, none⟩ (.slice A6 (rdoP T.dur T.pend o).length c6)).cell? ⟨b, off + k * 3 + 1, none⟩ = some (.string ⟨o.data.toArray⟩) ∧ ((w3.setCell ⟨wr.heap.size, 0, none⟩ (.slice A5 (rdoD T.dur T.pend o).length c5)).setCell ⟨wr.heap.size, 1, none⟩ (.slice A6 (rdoP T.dur T.pend o).length c6)).cell? ⟨b, off + k * 3 + 2, none⟩ = some (.bool o.sync)) := ⟨⟨(far2 _ _ _ _ (by omega)).trans kS3.1.1, (far2 _ _ _ _ (by omega)).trans kS3.1.2⟩, (far2 _ _ _ _ (by omega)).trans kS3.2.1, (far2 _ _ _ _ (by omega)).trans kS3.2.2.1, (far2 _ _ _ _ (by omega)).trans kS3.2.2.2⟩)
            | fail)
      · have hX := h3.alloc 32 #[.slice A5 (rdoD T.dur T.pend o).length c5, .slice A6 (rdoP T.dur T.pend o).length c6]
        generalize w3.alloc (.cells #[.slice A5 (rdoD T.dur T.pend o).length c5, .slice A6 (rdoP T.dur T.pend o).length c6] 32) = X at hX ⊢
        generalize w3.heap.size = g at hX ⊢
        clear kS kS0 kS3 kb3 hal hald h2 h3
        have bB := (hX.front 3 (by simp)).blk
        have b1 := (hX.front 2 (by simp)).blk
        have kB0 := bB.cell 0
        have kB1 := bB.cell 1
        have lB := bB.lt
        have fB := fun i => bB.frozen i
        have k40 := b1.cell 0
        have k41 := b1.cell 1
        have l4 := b1.lt
        have f4 := fun i => b1.frozen i
        have bg := hX.blk
        have kg0 := bg.cell 0
        have kg1 := bg.cell 1
        have lg := bg.lt
        simp at kB0 kB1 k40 k41 kg0 kg1
        clear bB b1 bg
        by_cases her : rdoE T.dur o = 0
        · obtain ⟨T', HT, e6⟩ := rdo_ok her HN.out.2
          have hH := HE.out
          rw [HT.2.2.1] at hH
          rw [HT.1, HT.2.1] at hX
          rw [HT.1] at kg0
          rw [HT.2.1] at kg1
          rw [her, HT.1, HT.2.1]
          have HH := Lib.hid (And.intro hH (And.intro HT her))
          clear hH HT her
          go_wp2
          go_roundw
          case rel =>
            have hn4 := HH.out.2.1.2.2.2.1
            refine ⟨k + 1, T', A5, c5, A6, c6, by omega, by go_num, ?_, HH.out.1, hn4.trans HN.out.1, by omega, HH.out.2.1.2.2.2.2⟩
            have y1 := (hX.front 1 (by simp)).turn (R' := refR (.agg #[.slice A5 T'.dur.length c5, .slice A6 T'.pend.length c6]) T'.dur T'.pend) (fun F h => h.2)
            have y2 := ((y1.front 3 (by simp)).set_ 0 (.slice A5 T'.dur.length c5)).set_ 1 (.slice A6 T'.pend.length c6)
            exact ((y2.front 2 (by simp)).tail).front 2 (by simp)
          case measure => simp [intOf]; omega
        · have her' : (rdoE T.dur o == 0) = false := by rw [beq_eq_false_iff_ne]; exact her
          have hH := HE.out
          rw [rdo_no her] at hH
          have HH := Lib.hid hH
          clear hH her
          generalize rdoE T.dur o = er at her' HH ⊢
          go_wp2
          have y1 := (hX.front 1 (by simp)).turn (R' := refR (.agg #[.slice A3 T.dur.length c3, .slice A4 T.pend.length c4]) T.dur T.pend) (fun F h => h.1)
          have y2 := ((y1.front 2 (by simp)).set_ 0 (.slice A3 T.dur.length c3)).set_ 1 (.slice A4 T.pend.length c4)
          have e0 := y2.blk.cell 0
          have e1 := y2.blk.cell 1
          simp at e0 e1
          refine bodyPost_ret (v := .tuple #[.agg #[.slice A3 T.dur.length c3, .slice A4 T.pend.length c4], .int .i64 er]) (by simp [results, Try.results33, go_sem, e0, e1]) rfl ?_
          rw [HH.out]
          refine ⟨A3, c3, A4, c4, rfl, ?_⟩
          exact ((y2.tail.swap.tail).swap).tail
      · have hX := ((h3.front 1 (by simp)).set_ 0 (.slice A5 (rdoD T.dur T.pend o).length c5)).set_ 1 (.slice A6 (rdoP T.dur T.pend o).length c6)
        generalize (w3.setCell ⟨wr.heap.size, 0, none⟩ (.slice A5 (rdoD T.dur T.pend o).length c5)).setCell ⟨wr.heap.size, 1, none⟩ (.slice A6 (rdoP T.dur T.pend o).length c6) = X at hX ⊢
        clear kg3 fg lg kg0 kg1 kS5
        generalize wr.heap.size = g at hX ⊢
        clear kS kS0 kS3 kb3 hal hald h2 h3
        have bB := (hX.front 3 (by simp)).blk
        have b1 := (hX.front 2 (by simp)).blk
        have kB0 := bB.cell 0
        have kB1 := bB.cell 1
        have lB := bB.lt
        have fB := fun i => bB.frozen i
        have k40 := b1.cell 0
        have k41 := b1.cell 1
        have l4 := b1.lt
        have f4 := fun i => b1.frozen i
        have bg := hX.blk
        have kg0 := bg.cell 0
        have kg1 := bg.cell 1
        have lg := bg.lt
        simp at kB0 kB1 k40 k41 kg0 kg1
        clear bB b1 bg
        by_cases her : rdoE T.dur o = 0
        · obtain ⟨T', HT, e6⟩ := rdo_ok her HN.out.2
          have hH := HE.out
          rw [HT.2.2.1] at hH
          rw [HT.1, HT.2.1] at hX
          rw [HT.1] at kg0
          rw [HT.2.1] at kg1
          rw [her, HT.1, HT.2.1]
          have HH := Lib.hid (And.intro hH (And.intro HT her))
          clear hH HT her
          go_wp2
          go_roundw
          case rel =>
            have hn4 := HH.out.2.1.2.2.2.1
            refine ⟨k + 1, T', A5, c5, A6, c6, by omega, by go_num, ?_, HH.out.1, hn4.trans HN.out.1, by omega, HH.out.2.1.2.2.2.2⟩
            have y1 := (hX.front 1 (by simp)).turn (R' := refR (.agg #[.slice A5 T'.dur.length c5, .slice A6 T'.pend.length c6]) T'.dur T'.pend) (fun F h => h.2)
            have y2 := ((y1.front 3 (by simp)).set_ 0 (.slice A5 T'.dur.length c5)).set_ 1 (.slice A6 T'.pend.length c6)
            exact ((y2.front 2 (by simp)).tail).front 2 (by simp)
          case measure => simp [intOf]; omega
        · have her' : (rdoE T.dur o == 0) = false := by rw [beq_eq_false_iff_ne]; exact her
          have hH := HE.out
          rw [rdo_no her] at hH
          have HH := Lib.hid hH
          clear hH her
          generalize rdoE T.dur o = er at her' HH ⊢
          go_wp2
          have y1 := (hX.front 1 (by simp)).turn (R' := refR (.agg #[.slice A3 T.dur.length c3, .slice A4 T.pend.length c4]) T.dur T.pend) (fun F h => h.1)
          have y2 := ((y1.front 2 (by simp)).set_ 0 (.slice A3 T.dur.length c3)).set_ 1 (.slice A4 T.pend.length c4)
          have e0 := y2.blk.cell 0
          have e1 := y2.blk.cell 1
          simp at e0 e1
          refine bodyPost_ret (v := .tuple #[.agg #[.slice A3 T.dur.length c3, .slice A4 T.pend.length c4], .int .i64 er]) (by simp [results, Try.results33, go_sem, e0, e1]) rfl ?_
          rw [HH.out]
          refine ⟨A3, c3, A4, c4, rfl, ?_⟩
          exact ((y2.tail.swap.tail).swap).tail
    · obtain rfl : k = L.length := by omega
      rw [List.drop_length] at he
      have HE := Lib.hid (show execS S L = (T, 0) from he)
      clear he bb b4
      go_wp2
      have y2 := (h2.set_ 0 (.slice A3 T.dur.length c3)).set_ 1 (.slice A4 T.pend.length c4)
      have e0 := y2.blk.cell 0
      have e1 := y2.blk.cell 1
      simp at e0 e1
      refine bodyPost_ret (v := .tuple #[.agg #[.slice A3 T.dur.length c3, .slice A4 T.pend.length c4], .int .i64 0]) (by simp [results, Try.results33, go_sem, e0, e1]) rfl ?_
      rw [HE.out]
      exact ⟨A3, c3, A4, c4, rfl, y2.tail.tail⟩
end Go.Proofs.Ytepdfeegklinfaa
