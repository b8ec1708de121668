/-
  DiskTears: the walk. Conditions: none.
-/
import Derived.Test.YtepdfeegklinfaaDkSep
namespace Go.Proofs.Ytepdfeegklinfaa
set_option linter.unusedVariables false
open Go.RowKit Go.ChangeMaps Go.MapKept

/-- the data of the writes to a page -/
def wsOf (P : List Dk.Wr) (p : Nat) : List Dk.Str := (P.filter (fun x => x.1 == p)).map (·.2)
theorem wsOf_snoc (P : List Dk.Wr) (x : Dk.Wr) (p : Nat) : wsOf (P ++ [x]) p = if x.1 = p then wsOf P p ++ [x.2] else wsOf P p := by
  unfold wsOf
  rw [List.filter_append, List.map_append]
  by_cases h : x.1 = p
  · simp [h]
  · simp [h]
theorem crash_val (cs : List Int) (p : Nat) : ∀ (P : List Dk.Wr) (i : Nat) (d : List Dk.Str), p < d.length → (Dk.crashD cs i P d).getD p [] = d.getD p [] ∨ (Dk.crashD cs i P d).getD p [] ∈ wsOf P p ∨ ((Dk.crashD cs i P d).getD p [] = Dk.unread ∧ wsOf P p ≠ []) := by
  intro P
  induction P with
  | nil => intro i d hp; exact .inl rfl
  | cons x P ih =>
    intro i d hp
    rw [Dk.crashD]
    have hl : p < (Dk.put3 (Dk.choice cs i) d x).length := by rw [Dk.put3_length]; exact hp
    have hw : wsOf (x :: P) p = if x.1 = p then x.2 :: wsOf P p else wsOf P p := by
      unfold wsOf
      by_cases h : x.1 = p
      · simp [h]
      · simp [h]
    rw [hw]
    rcases ih (i + 1) _ hl with h | h | h
    · rw [h]
      unfold Dk.put3
      simp only [List.getD_eq_getElem?_getD]
      by_cases e : x.1 = p
      · rw [if_pos e]
        split
        · right; left; subst e; simp [hp]
        · split
          · right; right; subst e; simp [hp]
          · left; rfl
      · rw [if_neg e]
        left
        split
        · rw [List.getElem?_set_ne e]
        · split
          · rw [List.getElem?_set_ne e]
          · rfl
    · right; left
      by_cases e : x.1 = p
      · rw [if_pos e]; exact List.mem_cons_of_mem _ h
      · rw [if_neg e]; exact h
    · right; right
      refine ⟨h.1, ?_⟩
      by_cases e : x.1 = p
      · rw [if_pos e]; simp
      · rw [if_neg e]; exact h.2

def ixS (L : List Dk.Str) (s : Dk.Str) : Int := match L.findIdx? (fun y => s == y) with
  | some i => i
  | none => -1
theorem ixS_at (L : List Dk.Str) (s : Dk.Str) (k : Nat) (hk : k < L.length) (h : ∀ j (hj : j < L.length), j < k → (s == L[j]) = false) (hb : (s == L[k]) = true) : ixS L s = k := by
  have : L.findIdx? (fun y => s == y) = some k := by
    rw [List.findIdx?_eq_some_iff_getElem]
    exact ⟨hk, hb, fun j hj => by have := h j (by omega) hj; rw [this]; decide⟩
  unfold ixS
  rw [this]
theorem ixS_none (L : List Dk.Str) (s : Dk.Str) (h : ∀ j (hj : j < L.length), (s == L[j]) = false) : ixS L s = -1 := by
  have : L.findIdx? (fun y => s == y) = none := by
    rw [List.findIdx?_eq_none_iff]
    intro x hx
    obtain ⟨j, hj, rfl⟩ := List.getElem_of_mem hx
    exact h j hj
  unfold ixS
  rw [this]
theorem ixS_mem (L : List Dk.Str) (s : Dk.Str) (h : s ∈ L) : decide (ixS L s ≥ 0) = true := by
  unfold ixS
  cases hf : L.findIdx? (fun y => s == y) with
  | some i => simp
  | none =>
    rw [List.findIdx?_eq_none_iff] at hf
    have := hf s h
    simp at this
set_option maxRecDepth 20000 in
set_option maxHeartbeats 2000000 in
theorem index_spec (A : Option Addr) (L : List Dk.Str) (s : Dk.Str) (c : Nat) (w : World) (hR : Rd w A (strs L)) (hl : L.length ≤ 9223372036854775807) :
    Calls Try.prog 43 #[.slice A L.length c, .string ⟨s.toArray⟩] w fun e w' => e = .returned (.int .i64 (ixS L s)) ∧ w = w' := by
  have HI := Lib.hid hR
  clear hR
  go_enter Try.func43, Try.ntmps43
  go_wp2
  go_loop [8] (fun i => ∃ k : Nat, k ≤ L.length ∧ i = .int .i64 k ∧ ∀ j (hj : j < L.length), j < k → (s == L[j]) = false) (fun i => L.length - (intOf i).toNat)
  case atStart => exact ⟨0, Nat.zero_le _, rfl, fun j hj h => by omega⟩
  case round =>
    obtain ⟨k, hk, rfl, hall⟩ := hrel
    by_cases hlt : k < L.length
    · obtain ⟨b, off, rfl, hcc⟩ := HI.out.str hlt
      have HA := Lib.hid hall
      obtain ⟨o, ho⟩ : ∃ o, L[k] = o := ⟨_, rfl⟩
      rw [ho] at hcc
      have HO := Lib.hid ho
      have hk1 : (k : Int) < (L.length : Int) := by omega
      have hk0 : (0 : Int) ≤ (k : Int) := by omega
      clear hall ho
      by_cases he : s = o
      · subst he
        have hs : ixS L s = k := ixS_at L s k hlt HA.out (by rw [HO.out]; exact beq_self_eq_true s)
        have HS := Lib.hid hs
        clear hs
        go_wp2
        go_ret
        exact ⟨by rw [HS.out]; rfl, rfl⟩
      · have he' : (s == o) = false := by rw [beq_eq_false_iff_ne]; exact he
        clear he
        go_wp2
        go_round
        case rel =>
          refine ⟨k + 1, by omega, by go_num, fun j hj hjk => ?_⟩
          by_cases e : j = k
          · subst e; rw [HO.out]; exact he'
          · exact HA.out j hj (by omega)
        case measure => simp [intOf]; omega
    · obtain rfl : k = L.length := by omega
      have hs : ixS L s = -1 := ixS_none L s (fun j hj => hall j hj hj)
      have HS := Lib.hid hs
      clear hs hall
      go_wp2
      go_ret
      exact ⟨by rw [HS.out]; rfl, rfl⟩
theorem contains_spec (A : Option Addr) (L : List Dk.Str) (s : Dk.Str) (c : Nat) (w : World) (hR : Rd w A (strs L)) (hl : L.length ≤ 9223372036854775807) (hm : s ∈ L) :
    Calls Try.prog 29 #[.slice A L.length c, .string ⟨s.toArray⟩] w fun e w' => e = .returned (.bool true) ∧ w = w' := by
  have ht := ixS_mem L s hm
  have hx := index_spec A L s c w hR hl
  generalize ixS L s = z at ht hx
  clear hm hR
  go_enter Try.func29, Try.ntmps29
  go_wp2_with fail
  refine hx.mono ?_
  rintro e w2 ⟨rfl, rfl⟩
  go_wp2
  go_ret
  exact ⟨rfl, rfl⟩
theorem info_sl : (Try.prog.info? 29).map (fun i => (i.zero, i.size, i.bytes)) = some (some (.slice none 0 0), 1, 24) := by kernel_rfl
theorem made_nil (n : Nat) : (madeCells (Value.cells (.slice none 0 0)) (n * 1)).toList = List.replicate n (Value.slice none 0 0) := by
  apply List.ext_getElem
  · simp [madeCells]
  · intro i h1 h2
    simp [madeCells, Value.cells, Nat.mod_one]
theorem held_nil (w : World) (e : TypeId) (size : Nat) : ∀ n, Held w (rowsR e size (List.replicate n ((.slice none 0 0, []) : Value × List Value))) (fun _ => False)
  | 0 => trivial
  | n + 1 => ⟨fun _ => False, fun _ => False, ⟨by simpa using World.ownsRow_nil w 0 e size, fun k hk => (by cases hk), fun k hk => hk.elim⟩, held_nil w e size n, fun k hk => hk.elim, fun k hk => hk⟩
theorem tab_blank {lo : Nat} {w0 w : World} {Rs : List Res} {te e : TypeId} {size n : Nat} {v : Value} (h : St lo w0 w (ownR te 1 v n (List.replicate n (.slice none 0 0)) :: Rs)) : St lo w0 w (tabR te e size v (List.replicate n (.slice none 0 0, [])) :: Rs) := by
  refine h.turn (fun F hF => ⟨⟨F, fun _ => False, ?_, held_nil w e size n, fun k hk => ⟨hk, fun h => h⟩, fun k hk => hk.elim⟩, hF.2.2⟩)
  simpa using hF
theorem s_rsync {lo : Nat} {w0 w : World} {Rs : List Res} {v : Value} {dur : List Dk.Str} {pend : List Dk.Wr} (h : St lo w0 w (refR v dur pend :: Rs)) (hok : ∀ y ∈ pend, y.1 < dur.length) (hd : dur.length ≤ 4096) (hP : pend.length ≤ 1099511627776) :
    Calls Try.prog 28 #[v] w fun e w' => ∃ A1 c1 A2 c2, e = .returned (.agg #[.slice A1 (Dk.syncD dur pend).length c1, .slice A2 0 c2]) ∧ St lo w0 w' (refR (.agg #[.slice A1 (Dk.syncD dur pend).length c1, .slice A2 0 c2]) (Dk.syncD dur pend) [] :: Rs) := by
  obtain ⟨F, h1, h2, h3⟩ := h.open
  refine (rsync_spec v dur pend w h1.1 hok hd hP).mono ?_
  rintro e w' ⟨v', rfl, hV, hb, hK⟩
  obtain ⟨A1, c1, A2, c2, rfl, _⟩ := id hV
  refine ⟨A1, c1, A2, c2, rfl, h3 (refR _ _ _) (Mod.of_below hb F) (F' := grow F w w') ⟨hV, hK F h1.2.1, fun k hk => ?_⟩ (fun k hk => by rcases hk with hk | hk; exact .inl hk; exact .inr hk.1)⟩
  rcases hk with hk | hk
  · have := h1.2.2 k hk
    have := hb.size
    omega
  · exact hk.2
theorem blank_image (n : Nat) : Dk.image (blank n).dur (blank n).pend = List.replicate n [] := by
  apply List.ext_getElem
  · simp [Dk.image, blank]
  · intro i h1 h2
    simp [Dk.image, blank, Dk.cont, Dk.last]
    simp [List.getElem?_replicate]
    split <;> rfl

def TearP (lo : Nat) (w0 : World) (b d g n k : Nat) (wr : World) : Prop :=
  ∃ (S : Dk.Ds) (T : Tab) (A6 : Option Addr) (c6 : Nat) (A7 : Option Addr) (c7 : Nat), St lo w0 wr [diskR d S, refR (.agg #[.slice A6 S.dur.length c6, .slice A7 S.pend.length c7]) S.dur S.pend, cellsR b 32 #[.slice A6 S.dur.length c6, .slice A7 S.pend.length c7], tabR 29 9 1 (.slice (some ⟨g, 0, none⟩) n n) T] ∧ S.dur = List.replicate n [] ∧ T.length = n ∧ (∀ p (hp : p < T.length), T[p].2 = strs ([[], Dk.unread] ++ wsOf S.pend p)) ∧ S.pend.length ≤ k ∧ S.recd.length ≤ k
set_option maxRecDepth 20000 in
set_option maxHeartbeats 4000000 in
theorem diskTears_walk (q : Nat) (hq1 : q ≤ 255) (A : Option Addr) (L : List Ac) (c : Nat) (B : Option Addr) (cs : List Int) (cc : Nat) (w : World) (hR : Rd w A (acts L)) (hl : L.length ≤ 9223372036854775807) (hok : ∀ a ∈ L, AcOk w a)
    (hRc : Rd w B (ints cs)) (hcl : cs.length ≤ 9223372036854775807) :
    Calls Try.prog 7 #[.int .u8 q, .slice A L.length c, .slice B cs.length cc] w fun e w' => e = .returned (.bool true) ∧ Below w.heap.size w w' := by
  have HI := Lib.hid (And.intro hR (And.intro hok hRc))
  clear hR hok hRc
  obtain ⟨i0, hi, hz0, hz1, hz2⟩ := info_parts info_sl
  have hc0 : (0 : Int) ≤ (cs.length : Int) := by omega
  go_enter Try.func7, Try.ntmps7
  go_wp2_with fail
  refine (awake_disk w).mono ?_
  rintro e w1 ⟨rfl, b1⟩
  have h1 := (St.nil w).under b1
  go_wp2_with fail
  refine (few_spec A L c w1 (HI.out.1.below b1) hl (fun a ha => (HI.out.2.1 a ha).below b1)).mono ?_
  rintro e w1' ⟨rfl, rfl⟩
  by_cases hf : few L = true
  · rw [hf]
    by_cases h20 : 20 < cs.length
    · have h20' : decide ((20 : Int) < (cs.length : Int)) = true := by simp; omega
      go_wp2
      go_ret
      exact ⟨rfl, b1⟩
    have h20' : decide ((20 : Int) < (cs.length : Int)) = false := by simp; omega
    go_wp2_with fail
    refine (s_start h1 q hq1).mono ?_
    rintro e w2 ⟨d, A1, c1, A2, c2, rfl, h2⟩
    clear h1 b1
    obtain ⟨n, hn⟩ : ∃ n, 1 + q % 12 = n := ⟨_, rfl⟩
    have hn12 : n ≤ 12 := by omega
    have hn1 : 1 ≤ n := by omega
    rw [hn] at h2 ⊢
    clear hn
    have hL40 := (few_at hf).2
    go_wp2_with fail
    have h3 := (h2.alloc 32 #[.slice A1 n c1, .slice A2 0 c2]).rot
    generalize w2.alloc (.cells #[.slice A1 n c1, .slice A2 0 c2] 32) = w3 at h3 ⊢
    generalize w2.heap.size = b at h3 ⊢
    clear h2
    refine (s_sync h3 (by simp [blank]) (by simp [blank])).mono ?_
    rintro e w4 ⟨rfl, h4⟩
    have hsb : Dk.sync (blank n) = blank n := rfl
    rw [hsb] at h4
    clear h3
    have bb := (h4.front 2 (by simp)).blk
    have kb0 := bb.cell 0
    have kb1 := bb.cell 1
    have lb := bb.lt
    simp at kb0 kb1
    clear bb
    go_wp2_with fail
    refine (s_rsync h4.swap (by intro y hy; cases hy) (by simp; omega) (by simp)).mono ?_
    rintro e w5 ⟨A3, c3, A4, c4, rfl, h5⟩
    clear h4 kb0 kb1 lb
    have hsd : Dk.syncD (List.replicate n []) [] = List.replicate n [] := rfl
    rw [hsd, List.length_replicate] at h5
    rw [hsd, List.length_replicate]
    clear hsd
    have bb := (h5.front 2 (by simp)).blk
    have kb0 := bb.cell 0
    have kb1 := bb.cell 1
    have fb := fun i => bb.frozen i
    have lb := bb.lt
    simp at kb0 kb1
    clear bb
    go_wp2_with fail
    have h6 := (((h5.front 2 (by simp)).set_ 0 (.slice A3 n c3)).set_ 1 (.slice A4 0 c4)).pick [2, 1, 0] (by decide) (by simp)
    clear h5
    generalize (w5.setCell ⟨b, 0, none⟩ (.slice A3 n c3)).setCell ⟨b, 1, none⟩ (.slice A4 0 c4) = w6 at h6 ⊢
    clear kb0 kb1 fb lb
    refine (s_pages h6).mono ?_
    rintro e w6' ⟨rfl, rfl⟩
    have hbl : (blank n).dur.length = n := by simp [blank]
    rw [hbl]
    go_wp2_with (at_make; go_must (refine wpList_make_full _ rfl _ _ 61 rfl w6.heap.size 29 i0 (.slice none 0 0) 1 Try.underlying61 hi hz0 hz1 .i64 .i64 _ _ n rfl rfl rfl rfl (by rw [hz2]; omega) (by unfold maxLen; omega) (Nat.le_refl _) ?_); intro w7 hown7 hg7)
    rw [made_nil] at hown7
    have h7 := tab_blank (e := 9) (size := 1) (h6.new_own (below_none hg7) hown7)
    clear h6
    replace h7 : St w.heap.size w w7 [tabR 29 9 1 (.slice (some ⟨w6.heap.size, 0, none⟩) n n) (List.replicate n (.slice none 0 0, [])), cellsR b 32 #[.slice A3 n c3, .slice A4 0 c4], refR (.agg #[.slice A3 n c3, .slice A4 0 c4]) (List.replicate n []) [], diskR d (blank n)] := h7.pick [0, 3, 2, 1] (by decide) (by simp)
    clear hown7 hg7
    generalize w6.heap.size = g at h7 ⊢
    refine (s_image (h7.front 3 (by simp))).mono ?_
    rintro e w8 ⟨A5, c5, rfl, h8⟩
    rw [blank_image] at h8 ⊢
    rw [List.length_replicate]
    have h9 : ∃ T : Tab, St w.heap.size w w8 [tabR 29 9 1 (.slice (some ⟨g, 0, none⟩) n n) T, rowR A5 c5 (List.replicate n []), cellsR b 32 #[.slice A3 n c3, .slice A4 0 c4], refR (.agg #[.slice A3 n c3, .slice A4 0 c4]) (List.replicate n []) [], diskR d (blank n)] ∧ T.length = n := ⟨_, h8.pick [2, 0, 3, 4, 1] (by decide) (by simp), by simp⟩
    clear h7 h8
    go_wp2
    go_loopw [46] (fun i wr => ∃ (k : Nat) (T : Tab), k ≤ n ∧ i = .int .i64 k ∧ St w.heap.size w wr [tabR 29 9 1 (.slice (some ⟨g, 0, none⟩) n n) T, rowR A5 c5 (List.replicate n []), cellsR b 32 #[.slice A3 n c3, .slice A4 0 c4], refR (.agg #[.slice A3 n c3, .slice A4 0 c4]) (List.replicate n []) [], diskR d (blank n)] ∧ T.length = n ∧ ∀ j (hj : j < T.length), j < k → T[j].2 = strs [[], Dk.unread]) (fun i _ => n - (intOf i).toNat)
    case atStart =>
      obtain ⟨T, h, hT⟩ := h9
      exact ⟨0, T, Nat.zero_le _, rfl, h, hT, fun j hj h => by omega⟩
    case round =>
      clear h9
      obtain ⟨k, T, hk, rfl, h, hTl, hTr⟩ := hrel
      by_cases hlt : k < n
      · obtain ⟨b5, o5, rfl, hcc⟩ := (h.front 1 (by simp)).row.str (k := k) (by simpa using hlt)
        rw [List.getElem_replicate] at hcc
        have hkT : k < T.length := by omega
        have hg9 := tab_cell h k hkT
        have hfz : wr.frozen? ⟨g, k, none⟩ = false := row_frozen (tab_outer h) k
        have hgl : g < wr.heap.size := World.block_lt_of_cell? wr _ hg9
        have hk1 : (k : Int) < (n : Int) := by omega
        have hk0 : (0 : Int) ≤ (k : Int) := by omega
        generalize T[k].1 = vk at hg9
        have HT := Lib.hid (And.intro hTl hTr)
        clear hTl hTr
        go_wp2
        have hnew : St w.heap.size w (wr.alloc (.cells #[.string ⟨#[]⟩, .string ⟨#[33]⟩] 9)) (ownR 9 1 (.slice (some ⟨wr.heap.size, 0, none⟩) 2 2) ((strs [[], Dk.unread]).length / 1) (strs [[], Dk.unread]) :: _) := h.new_own ((Below.refl _ wr).alloc (Nat.le_refl _) _) (World.ownsRow_lit wr #[.string ⟨#[]⟩, .string ⟨#[33]⟩] 2 (Nat.le_refl _) (by decide) rfl)
        have hput := tab_put hnew k hkT
        rw [World.setCell_alloc_past (hn := hgl)] at hput
        go_roundw
        case rel =>
          refine ⟨k + 1, _, by omega, by go_num, hput, by rw [List.length_set]; exact HT.out.1, fun j hj hjk => ?_⟩
          by_cases e : j = k
          · subst e; simp
          · rw [List.getElem_set_ne (by omega)]
            exact HT.out.2 j (by simpa using hj) (by omega)
        case measure => simp [intOf]; omega
      · obtain rfl : n = k := by omega
        have h10 : TearP w.heap.size w b d g n 0 wr :=
          ⟨blank n, T, A3, c3, A4, c4, by simpa [blank] using h.pick [4, 3, 2, 0] (by decide) (by simp), rfl, hTl, fun p hp => by rw [hTr p hp (by omega)]; rfl, by simp [blank], by simp [blank]⟩
        clear h hTl hTr hlt
        go_wp2
        go_loopw [59] (fun i wr => ∃ k : Nat, k ≤ L.length ∧ i = .int .i64 k ∧ TearP w.heap.size w b d g n k wr) (fun i _ => L.length - (intOf i).toNat)
        case atStart => exact ⟨0, Nat.zero_le _, rfl, h10⟩
        case round =>
          clear h10
          obtain ⟨k, hk, rfl, S, T, A6, c6, A7, c7, h, hSd, hTl, hTr, hSp, hSr⟩ := hrel
          have hS12 : S.dur.length ≤ 12 := by rw [hSd]; simp; exact hn12
          have hSn : S.dur.length = n := by rw [hSd]; simp
          have HN := Lib.hid (And.intro hSd (And.intro hTl (And.intro hTr hSn)))
          clear hSd hTl hTr hSn
          by_cases hlt : k < L.length
          · obtain ⟨b0, off, rfl, hbl, hcc⟩ := rd_elem acc 5 (fun _ => rfl) (HI.out.1.below h.below) hlt (by omega)
            have hc0 := hcc 0 _ rfl
            have hc1 := hcc 1 _ rfl
            have hc2 := hcc 2 _ rfl
            have hc3 := hcc 3 _ rfl
            have hc4 := hcc 4 _ rfl
            have hoka := HI.out.2.1 _ (List.getElem_mem hlt)
            have hfa := (few_at hf).1 _ (List.getElem_mem hlt)
            obtain ⟨a, ha⟩ : ∃ a, L[k] = a := ⟨_, rfl⟩
            rw [ha] at hc0 hc1 hc2 hc3 hc4 hoka hfa
            simp only [Nat.add_zero] at hc0
            have hk1 : (k : Int) < (L.length : Int) := by omega
            have hk0 : (0 : Int) ≤ (k : Int) := by omega
            have HK := Lib.hid hoka
            clear hoka ha hcc
            have hm3 : a.kind.tmod 3 = a.kind % 3 := Int.tmod_eq_emod_of_nonneg HK.out.2.2.2.2.1
            obtain ⟨m, hm⟩ : ∃ m, a.kind % 3 = m := ⟨_, rfl⟩
            rw [hm] at hm3
            by_cases e0 : m = 0
            · subst e0
              have hst : stepS S a = Dk.write S a.op.page a.op.data := by unfold stepS; rw [if_neg (by rw [hm]; decide), if_neg (by rw [hm]; decide)]
              have HM := Lib.hid hm
              clear hm
              have bB := (h.front 2 (by simp)).blk
              have kB0 := bB.cell 0
              have kB1 := bB.cell 1
              have lB := bB.lt
              simp at kB0 kB1
              clear bB
              go_wp2_with fail
              have h5 := (h.alloc 41 #[.int .u8 a.kind, .int .i64 a.op.page, .string ⟨a.op.data.toArray⟩, .bool a.op.sync, .slice a.A a.cs.length a.c]).rot
              have kdo := s_do a h5 (by omega) (by omega) HK.out rfl
              rw [hst] at kdo
              unfold acV at kdo
              with_reducible refine kdo.mono ?_
              clear kdo kB0 kB1 hst
              rintro e w9 ⟨A8, c8, A9, c9, rfl, h6⟩
              clear h5
              have bb := (h6.front 2 (by simp)).blk
              have ba := (h6.front 4 (by simp)).blk
              have fb := fun i => bb.frozen i
              have lb := bb.lt
              have la := ba.lt
              have kb0 := bb.cell 0
              have kb1 := bb.cell 1
              have ka1 := ba.cell 1
              have ka2 := ba.cell 2
              simp at kb0 kb1 ka1 ka2
              clear bb ba
              by_cases hz : Dk.wErr S.dur a.op.page a.op.data = 0
              · have hpv : 0 ≤ a.op.page ∧ a.op.page < n ∧ a.op.data.length = 512 := by
                  unfold Dk.wErr at hz
                  rw [HN.out.2.2.2] at hz
                  by_cases h1 : a.op.page < 0 ∨ (n : Int) ≤ a.op.page
                  · rw [if_pos h1] at hz; cases hz
                  · rw [if_neg h1] at hz
                    by_cases h2 : a.op.data.length = 512
                    · exact ⟨by omega, by omega, h2⟩
                    · rw [if_neg h2] at hz; cases hz
                obtain ⟨pp, hpp⟩ : ∃ pp : Nat, a.op.page = pp := ⟨a.op.page.toNat, by omega⟩
                have hppn : pp < n := by omega
                have hx512 : a.op.data.length = 512 := hpv.2.2
                obtain ⟨wd, wp⟩ := write_dp S a.op.page a.op.data
                have wp' : (Dk.write S a.op.page a.op.data).pend = S.pend ++ [(pp, a.op.data)] := by rw [wp]; unfold Dk.wPend; rw [if_pos hz, hpp]; rfl
                obtain ⟨wl1, wl2, wl3⟩ := write_len S a.op.page a.op.data
                have HW := Lib.hid (And.intro wd (And.intro wp' hx512))
                rw [hpp] at ka1
                clear wd wp wp' wl1 hz hpv hx512 hc1
                generalize Dk.write S a.op.page a.op.data = S' at h6 wl2 wl3 HW ⊢
                have h1' : decide ((pp : Int) ≥ 0) = true := by simp
                have h2' : decide ((pp : Int) < (n : Int)) = true := by simp; omega
                have h3' : (a.op.data.length : Int) = 512 := by rw [HW.out.2.2]; rfl
                clear hpp
                go_wp2_with fail
                have hX := ((((h6.front 2 (by simp)).set_ 0 (.slice A8 S'.dur.length c8)).set_ 1 (.slice A9 S'.pend.length c9)).alloc0 (.cells #[.slice A8 S'.dur.length c8, .slice A9 S'.pend.length c9] 32)).pick [3, 1, 2, 0, 4] (by decide) (by simp)
                replace hX : St w.heap.size w (((w9.setCell ⟨b, 0, none⟩ (.slice A8 S'.dur.length c8)).setCell ⟨b, 1, none⟩ (.slice A9 S'.pend.length c9)).alloc (.cells #[.slice A8 S'.dur.length c8, .slice A9 S'.pend.length c9] 32)) [tabR 29 9 1 (.slice (some ⟨g, 0, none⟩) n n) T, diskR d S', refR (.agg #[.slice A8 S'.dur.length c8, .slice A9 S'.pend.length c9]) S'.dur S'.pend, cellsR b 32 #[.slice A8 S'.dur.length c8, .slice A9 S'.pend.length c9], cellsR wr.heap.size 41 #[.int .u8 a.kind, .int .i64 a.op.page, .string ⟨a.op.data.toArray⟩, .bool a.op.sync, .slice a.A a.cs.length a.c]] := hX
                clear h h6 kb0 kb1 fb lb la ka1 ka2
                generalize ((w9.setCell ⟨b, 0, none⟩ (.slice A8 S'.dur.length c8)).setCell ⟨b, 1, none⟩ (.slice A9 S'.pend.length c9)).alloc (.cells #[.slice A8 S'.dur.length c8, .slice A9 S'.pend.length c9] 32) = X at hX ⊢
                have ba := (hX.front 4 (by simp)).blk
                have ka2 := ba.cell 2
                have la := ba.lt
                simp at ka2
                have hpT : pp < T.length := by rw [HN.out.2.1]; exact hppn
                have hg9 := tab_cell hX pp hpT
                have hrow := tab_row hX pp hpT
                have hfz : X.frozen? ⟨g, pp, none⟩ = false := row_frozen (tab_outer hX) pp
                have hgl : g < X.heap.size := World.block_lt_of_cell? X _ hg9
                have hne : T[pp].1.ownBlock ≠ some g := by
                  rcases own_ne hrow (tab_outer hX) (by decide) with h0 | h0
                  · rw [h0]; simp
                  · exact h0
                have hm2 : T[pp].2.length = 2 + (wsOf S.pend pp).length := by rw [HN.out.2.2.1 pp hpT, strs_length, List.length_append]; rfl
                have hwl : (wsOf S.pend pp).length ≤ 40 := by unfold wsOf; rw [List.length_map]; exact Nat.le_trans (List.length_filter_le _ _) (by omega)
                obtain ⟨i1, hi1, hy0, hy1, hy2⟩ := info_parts info_str
                have q1 : (T[pp].2.length / 1 + 1) * 16 ≤ 140737488355328 := by omega
                have q2 : T[pp].2.length / 1 + 1 ≤ maxLen := by unfold maxLen; omega
                have HR := Lib.hid (And.intro hrow hm2)
                obtain ⟨v, hv⟩ : ∃ v, T[pp].1 = v := ⟨_, rfl⟩
                rw [hv] at hg9 hne hrow
                have HX := Lib.hid (And.intro hX hv)
                clear hX hv hm2 ba
                have kp0 : (0 : Int) ≤ (pp : Int) := by omega
                have hXd : ((X.alloc (.cells #[.string ⟨a.op.data.toArray⟩] 9)).drew).cell? ⟨g, pp, none⟩ = some v := below_cell ((Below.refl _ X).alloc (Nat.le_refl _) _).drew hg9
                have hXf : ((X.alloc (.cells #[.string ⟨a.op.data.toArray⟩] 9)).drew).frozen? ⟨g, pp, none⟩ = false := by
                  rw [← hfz]
                  exact World.frozen?_of_block (((Below.refl _ X).alloc (Nat.le_refl _) _).drew.block g hgl)
                go_region_law (refine step_append_lies _ (by rfl) _ _ _ (by rfl) 0 9 i1 _ 1 16 Try.underlying29 hi1 hy0 hy1 hy2 rfl (by omega) v (T[pp].2.length / 1) T[pp].2 (by rfl) ((hrow.alloc _).drew) ⟨X.heap.size, 0, none⟩ 1 1 [.string ⟨a.op.data.toArray⟩] (by rfl) (by rfl) (World.news_of_block (cs := #[.string ⟨a.op.data.toArray⟩]) (t := 9) (fr := (0, 0)) (heap_alloc_new X _)) (by simp [Value.oneCell']) (by omega) q2 q1 (by simp) (X.heap.size + 1) (by simp) ?_; intro gg cap w1 hown1 hgrow hat hlt; have u4 : w1.cell? ⟨g, pp, none⟩ = some v := (hgrow.cell_far _ (by simp; omega) (Ne.symm hne)).trans hXd; have g4 : w1.frozen? ⟨g, pp, none⟩ = false := (hgrow.frozen_far _ (by simp; omega) (Ne.symm hne)).trans hXf)
                all_goals
                  have hat' : (Value.slice (some ⟨gg, 0, none⟩) (T[pp].2.length / 1 + 1) cap).ownBlock = T[pp].1.ownBlock ∨ (Value.slice (some ⟨gg, 0, none⟩) (T[pp].2.length / 1 + 1) cap).ownBlock = some (X.alloc (.cells #[.string ⟨a.op.data.toArray⟩] 9)).drew.heap.size := by
                    rcases hat with e | e
                    · left; rw [HX.out.2, e]; rfl
                    · right; subst e; simp [Value.ownBlock]
                  have hl1 : (T[pp].2 ++ [Value.string ⟨a.op.data.toArray⟩]).length / 1 = T[pp].2.length / 1 + 1 := by simp
                  have hown2 : w1.ownsRow 0 9 1 (.slice (some ⟨gg, 0, none⟩) (T[pp].2.length / 1 + 1) cap) ((T[pp].2 ++ [Value.string ⟨a.op.data.toArray⟩]).length / 1) (T[pp].2 ++ [Value.string ⟨a.op.data.toArray⟩]) := by rw [hl1]; exact hown1
                  have hgrow2 : (X.alloc (.cells #[.string ⟨a.op.data.toArray⟩] 9)).drew.grownBy w1 T[pp].1.ownBlock := by rw [HX.out.2]; exact hgrow
                  have hput := tab_app ((HX.out.1.alloc0 (.cells #[.string ⟨a.op.data.toArray⟩] 9)).drew) pp hpT hown2 hgrow2 hat'
                  rw [Nat.div_one] at hput
                  have HP := Lib.hid hput
                  clear hput hgrow2 hown2 hl1 hat' hat hown1 hgrow
                  go_wp2
                  go_roundw
                  case rel =>
                    refine ⟨k + 1, by omega, by go_num, S', _, A8, c8, A9, c9, HP.out.pick [1, 2, 3, 0] (by decide) (by simp), by rw [HW.out.1]; exact HN.out.1, by rw [List.length_set]; exact HN.out.2.1, fun p hp => ?_, by omega, by omega⟩
                    rw [HW.out.2.1, wsOf_snoc]
                    by_cases e : pp = p
                    · subst e
                      rw [List.getElem_set_self, if_pos rfl]
                      show T[pp].2 ++ _ = _
                      rw [HN.out.2.2.1 pp hpT]
                      simp [strs]
                    · rw [List.getElem_set_ne (by omega), if_neg e]
                      exact HN.out.2.2.1 p (by simpa using hp)
                  case measure => simp [intOf]; omega
              · have hsame : Dk.write S a.op.page a.op.data = S := by unfold Dk.write; rw [if_neg hz]
                rw [hsame] at h6
                rw [hsame]
                clear hsame
                have hfin := ((((h6.front 2 (by simp)).set_ 0 (.slice A8 S.dur.length c8)).set_ 1 (.slice A9 S.pend.length c9)).alloc0 (.cells #[.slice A8 S.dur.length c8, .slice A9 S.pend.length c9] 32)).pick [1, 2, 0, 3] (by decide) (by simp)
                have hbad : a.op.page < 0 ∨ ((n : Int) ≤ a.op.page ∧ 0 ≤ a.op.page) ∨ (0 ≤ a.op.page ∧ a.op.page < n ∧ a.op.data.length ≠ 512) := by
                  by_cases h1 : a.op.page < 0
                  · exact .inl h1
                  · by_cases h2 : (n : Int) ≤ a.op.page
                    · exact .inr (.inl ⟨h2, by omega⟩)
                    · refine .inr (.inr ⟨by omega, by omega, fun h3 => hz ?_⟩)
                      unfold Dk.wErr
                      rw [if_neg (by rw [HN.out.2.2.2]; omega), if_pos h3]
                clear hz
                have HF := Lib.hid hfin
                clear hfin
                rcases hbad with h1 | ⟨h1, h2⟩ | ⟨h1, h2, h3⟩
                · have h1' : decide (a.op.page ≥ 0) = false := by simp; omega
                  go_wp2
                  go_roundw
                  case rel => exact ⟨k + 1, by omega, by go_num, S, T, A8, c8, A9, c9, HF.out, HN.out.1, HN.out.2.1, HN.out.2.2.1, by omega, by omega⟩
                  case measure => simp [intOf]; omega
                · have h1' : decide (a.op.page ≥ 0) = true := by simp; omega
                  have h2' : decide (a.op.page < (n : Int)) = false := by simp; omega
                  go_wp2
                  go_roundw
                  case rel => exact ⟨k + 1, by omega, by go_num, S, T, A8, c8, A9, c9, HF.out, HN.out.1, HN.out.2.1, HN.out.2.2.1, by omega, by omega⟩
                  case measure => simp [intOf]; omega
                · have h1' : decide (a.op.page ≥ 0) = true := by simp; omega
                  have h2' : decide (a.op.page < (n : Int)) = true := by simp; omega
                  have h3' : ((a.op.data.length : Int) == 512) = false := by rw [beq_eq_false_iff_ne]; omega
                  clear h3
                  go_wp2
                  go_roundw
                  case rel => exact ⟨k + 1, by omega, by go_num, S, T, A8, c8, A9, c9, HF.out, HN.out.1, HN.out.2.1, HN.out.2.2.1, by omega, by omega⟩
                  case measure => simp [intOf]; omega
            · have e0' : (m == 0) = false := by rw [beq_eq_false_iff_ne]; exact e0
              clear hm
              go_wp2
              go_roundw
              case rel => exact ⟨k + 1, by omega, by go_num, S, T, A6, c6, A7, c7, h.alloc0 _, HN.out.1, HN.out.2.1, HN.out.2.2.1, by omega, by omega⟩
              case measure => simp [intOf]; omega
          · obtain rfl : k = L.length := by omega
            go_wp2_with fail
            refine (s_crash h B cs cc (HI.out.2.2.below h.below) hcl (ints_lt HI.out.2.2) (by omega)).mono ?_
            rintro e w9 ⟨rfl, h9⟩
            clear h
            go_wp2_with fail
            refine (s_image h9).mono ?_
            rintro e w10 ⟨Ax, cx, rfl, h10⟩
            clear h9
            have hil : (Dk.image (Dk.crash S cs).dur (Dk.crash S cs).pend).length = n := by rw [image_length]; show (Dk.crashD _ _ _ _).length = n; rw [Dk.crashD_length]; exact HN.out.2.2.2
            have hiv : ∀ j (hj : j < n), (Dk.image (Dk.crash S cs).dur (Dk.crash S cs).pend).getD j [] ∈ [[], Dk.unread] ++ wsOf S.pend j ∧ ((Dk.image (Dk.crash S cs).dur (Dk.crash S cs).pend).getD j [] = Dk.unread → ([[], Dk.unread] ++ wsOf S.pend j).length ≠ 2) := by
              intro j hj
              have hjd : j < S.dur.length := by rw [HN.out.2.2.2]; exact hj
              have e0 : (Dk.image (Dk.crash S cs).dur (Dk.crash S cs).pend).getD j [] = (Dk.crashD cs 0 S.pend S.dur).getD j [] := by
                simp [Dk.image, Dk.cont, Dk.crash, Dk.last, Dk.crashD_length, hjd]
              rw [e0]
              have hd : S.dur.getD j [] = [] := by rw [HN.out.1]; simp [List.getElem?_replicate]; split <;> rfl
              rcases crash_val cs j S.pend 0 S.dur hjd with hh | hh | hh
              · rw [hh, hd]
                exact ⟨by simp, fun he => by cases he⟩
              · refine ⟨List.mem_append_right _ hh, fun _ hl2 => ?_⟩
                have hp := List.length_pos_of_mem hh
                rw [List.length_append] at hl2
                simp at hl2
                rw [hl2] at hp
                simp at hp
              · refine ⟨by rw [hh.1]; simp, fun _ hl2 => ?_⟩
                rw [List.length_append] at hl2
                simp at hl2
                exact hh.2 hl2
            generalize Dk.image (Dk.crash S cs).dur (Dk.crash S cs).pend = I at h10 hil hiv ⊢
            have HV := Lib.hid (And.intro h10 hiv)
            clear h10 hiv
            rw [hil]
            go_wp2
            go_loop [114] (fun i => ∃ j : Nat, j ≤ n ∧ i = .int .i64 j) (fun i => n - (intOf i).toNat)
            case atStart => exact ⟨0, Nat.zero_le _, rfl⟩
            case round =>
              obtain ⟨j, hj, rfl⟩ := hrel
              clear hlt hk
              by_cases hlt : j < n
              · obtain ⟨b5, o5, rfl, hcc⟩ := HV.out.1.row.str (k := j) (by rw [hil]; exact hlt)
                have hjT : j < T.length := by rw [HN.out.2.1]; exact hlt
                have hg9 := tab_cell (HV.out.1.front 4 (by simp)) j hjT
                have hrow := tab_row (HV.out.1.front 4 (by simp)) j hjT
                obtain ⟨Aj, cj, hAj, _, _⟩ := own_form hrow
                rw [hAj] at hg9 hrow
                have hRj := Rd.of_own hrow
                rw [HN.out.2.2.1 j hjT] at hRj hg9
                rw [strs_length, Nat.div_one] at hg9
                obtain ⟨hv1, hv2⟩ := HV.out.2 j hlt
                have hgd : I.getD j [] = I[j]'(by rw [hil]; exact hlt) := by simp [hil, hlt]
                obtain ⟨s, hs⟩ : ∃ s, I[j]'(by rw [hil]; exact hlt) = s := ⟨_, rfl⟩
                rw [hgd, hs] at hv1 hv2
                rw [hs] at hcc
                have hwl : (wsOf S.pend j).length ≤ 40 := by unfold wsOf; rw [List.length_map]; exact Nat.le_trans (List.length_filter_le _ _) (by omega)
                have hlj : ([[], Dk.unread] ++ wsOf S.pend j).length ≤ 42 := by rw [List.length_append]; simp; omega
                obtain ⟨Lj, hLj⟩ : ∃ Lj, [[], Dk.unread] ++ wsOf S.pend j = Lj := ⟨_, rfl⟩
                rw [hLj] at hg9 hRj hv1 hv2 hlj
                have hk1 : (j : Int) < (n : Int) := by omega
                have hk0 : (0 : Int) ≤ (j : Int) := by omega
                have HR := Lib.hid (And.intro hRj hv1)
                clear hRj hv1 hLj hs hrow hAj hwl hgd hil
                by_cases hu : s = Dk.unread
                · have hl2 : ((Lj.length : Int) == 2) = false := by rw [beq_eq_false_iff_ne]; have := hv2 hu; omega
                  have hl3 : (Lj.length == 2) = false := by rw [beq_eq_false_iff_ne]; have := hv2 hu; omega
                  unfold Dk.unread at hu
                  subst hu
                  clear hv2
                  go_wp2_with fail
                  refine (contains_spec Aj Lj [33] cj w10 HR.out.1 (by omega) HR.out.2).mono ?_
                  rintro e w11 ⟨rfl, rfl⟩
                  go_wp2
                  go_round
                  case rel => exact ⟨j + 1, by omega, by go_num⟩
                  case measure => simp [intOf]; omega
                · have hb : (s == [33]) = false := by rw [beq_eq_false_iff_ne]; exact hu
                  clear hv2 hu
                  go_wp2_with fail
                  refine (contains_spec Aj Lj s cj w10 HR.out.1 (by omega) HR.out.2).mono ?_
                  rintro e w11 ⟨rfl, rfl⟩
                  go_wp2
                  go_round
                  case rel => exact ⟨j + 1, by omega, by go_num⟩
                  case measure => simp [intOf]; omega
              · obtain rfl : j = n := by omega
                go_wp2
                go_ret
                exact ⟨rfl, HV.out.1.below⟩
  · rw [Bool.not_eq_true] at hf
    rw [hf]
    go_wp2
    go_ret
    exact ⟨rfl, b1⟩
end Go.Proofs.Ytepdfeegklinfaa
