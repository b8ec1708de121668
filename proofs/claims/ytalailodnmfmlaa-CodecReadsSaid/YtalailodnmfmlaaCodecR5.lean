/-
  The reader's method Texts: what it answers and what it leaves of the reader. Conditions: the offset lies in the string, the string has at most 2^40 bytes.
-/
import Derived.Test.YtalailodnmfmlaaCodecR4
namespace Go.Proofs.Ytalailodnmfmlaa
set_option linter.unusedVariables false
open Go.RowKit

theorem info_str : (Try.prog.info? 9).map (fun i => (i.zero, i.size, i.bytes)) = some (some (.string ⟨#[]⟩), 1, 16) := by kernel_rfl

/-- what is left to read of n strings when some have been read -/
def joinM (pre : List (List UInt8)) : Option (List (List UInt8) × Nat) → Option (List (List UInt8) × Nat)
  | some (r, e) => some (pre ++ r, e)
  | none => none
theorem joinM_step {s x : List UInt8} {k at_ next : Nat} {pre : List (List UInt8)} (h : Cd.readText s at_ = some (x, next)) : joinM pre (Cd.readMany s (k + 1) at_) = joinM (pre ++ [x]) (Cd.readMany s k next) := by
  simp only [Cd.readMany, h]
  cases Cd.readMany s k next with
  | none => rfl
  | some q => simp [joinM]
theorem joinM_bad {s : List UInt8} {k at_ : Nat} {pre : List (List UInt8)} (h : Cd.readText s at_ = none) : joinM pre (Cd.readMany s (k + 1) at_) = none := by
  simp only [Cd.readMany, h]; rfl
theorem joinM_nil (o : Option (List (List UInt8) × Nat)) : joinM [] o = o := by cases o <;> simp [joinM]

/-- what the reading of a list answers: a slice of the call's own -/
def TextsP (B : Nat) (o : Option (List (List UInt8) × Nat)) (e : Ending) (w' : World) : Prop :=
  match o with
  | some (L, next) => ∃ v, e = .returned (.tuple #[v, .int .i64 next, .bool true]) ∧ w'.ownsRow B 9 1 v L.length (strs L)
  | none => ∃ y : Int, e = .returned (.tuple #[.slice none 0 0, .int .i64 y, .bool false])

theorem readTexts_none {s : List UInt8} {at_ : Nat} (h : Cd.readUint s at_ = none) : Cd.readTexts s at_ = none := by simp [Cd.readTexts, h]
theorem readTexts_big {s : List UInt8} {at_ n next : Nat} (h : Cd.readUint s at_ = some (n, next)) (hn : ¬ n ≤ s.length - next) : Cd.readTexts s at_ = none := by simp only [Cd.readTexts, h]; rw [if_neg hn]
theorem readTexts_some {s : List UInt8} {at_ n next : Nat} (h : Cd.readUint s at_ = some (n, next)) (hn : n ≤ s.length - next) : Cd.readTexts s at_ = Cd.readMany s n next := by simp only [Cd.readTexts, h]; rw [if_pos hn]

theorem made_strs (n : Nat) : (madeCells #[Value.string ⟨#[]⟩] n).toList = strs [] ++ List.replicate n (.string ⟨#[]⟩) :=
  toList_madeCells_one _ n
theorem set_strs {pre : List (List UInt8)} {x : List UInt8} {n k : Nat} (hk : pre.length = k) (hn : k < n) :
    (strs pre ++ List.replicate (n - k) (Value.string ⟨#[]⟩)).set k (.string ⟨x.toArray⟩) = strs (pre ++ [x]) ++ List.replicate (n - (k + 1)) (Value.string ⟨#[]⟩) := by
  subst hk
  rw [List.set_append_right _ _ (by simp [strs])]
  have : n - pre.length = (n - (pre.length + 1)) + 1 := by omega
  rw [this, List.replicate_succ]
  simp [strs]

set_option maxRecDepth 20000 in
set_option maxHeartbeats 1000000 in
theorem texts1_spec (r g : Nat) (s : List UInt8) (at_ : Nat) (w : World) (hc : w.cell? ⟨r, 0, none⟩ = some (.string ⟨s.toArray⟩)) (hg : w.cell? ⟨g, 0, none⟩ = some (.pointer (some ⟨r, 0, none⟩))) (hs : s.length ≤ 1099511627776) (ha : at_ ≤ s.length) :
    Calls Try.prog 47 #[.int .i64 at_, .pointer (some ⟨g, 0, none⟩)] w fun e w' => TextsP w.heap.size (Cd.readTexts s at_) e w' ∧ Below w.heap.size w w' := by
  have hsc := size_spec r s at_ w hc hs ha
  cases hu : Cd.readUint s at_ with
  | none =>
    rw [readTexts_none hu]
    rw [hu] at hsc
    clear hu
    go_enter Try.func47, Try.ntmps47
    go_wp2_with fail
    refine hsc.mono ?_
    rintro e w' ⟨⟨x, y, rfl⟩, rfl⟩
    clear hsc
    go_wp2
    go_ret3
    exact ⟨⟨_, rfl⟩, Below.refl _ _⟩
  | some q =>
    obtain ⟨n, next⟩ := q
    obtain ⟨hle1, hle2, hle3⟩ := Cd.readUint_le hu ha
    have hle4 : (n : Int) ≤ 9223372036854775807 := by omega
    by_cases hn : n ≤ s.length - next
    · rw [readTexts_some hu hn]
      rw [hu] at hsc
      clear hu hle3
      have hn2 : (n : Int) ≤ (s.length : Int) - (next : Int) := by omega
      obtain ⟨i0, hi, hz0, hz1, hz2⟩ := info_parts info_str
      go_enter Try.func47, Try.ntmps47
      go_wp2_with fail
      refine hsc.mono ?_
      rintro e w' ⟨he, rfl⟩
      obtain rfl := he
      clear hsc
      go_wp2_with (at_make; go_must (refine wpList_make_full _ rfl _ _ 22 rfl w.heap.size 9 i0 (.string ⟨#[]⟩) 1 Try.underlying22 hi hz0 hz1 .i64 .i64 _ _ n rfl rfl rfl rfl (by rw [hz2]; omega) (by unfold maxLen; omega) (Nat.le_refl _) ?_))
      intro w1 hown1 hg1
      have hb1 : Below w.heap.size w w1 := (Below.refl _ w).grown hg1 (Nat.le_refl _) (fun k hk => by cases hk)
      have hr0 : r < w.heap.size := World.block_lt_of_cell? w ⟨r, 0, none⟩ hc
      have hg0 : g < w.heap.size := World.block_lt_of_cell? w ⟨g, 0, none⟩ hg
      rw [made_strs] at hown1
      clear hg1 hi hz0 hz1 hz2
      go_wp2
      go_loopw [34, 0, 7, 9] (fun i a _ _ wr => ∃ (k p : Nat) (pre : List (List UInt8)), k ≤ n ∧ pre.length = k ∧ i = .int .i64 k ∧ a = .int .i64 p ∧ p ≤ s.length ∧ Cd.readMany s n next = joinM pre (Cd.readMany s (n - k) p) ∧
        wr.ownsRow w.heap.size 9 1 (.slice (some ⟨w.heap.size, 0, none⟩) n n) n (strs pre ++ List.replicate (n - k) (.string ⟨#[]⟩)) ∧ Below w.heap.size w wr) (fun i _ _ _ _ => n - (intOf i).toNat)
      case atStart => exact ⟨0, next, [], Nat.zero_le _, rfl, rfl, rfl, hle2, (joinM_nil _).symm, hown1, hb1⟩
      case round =>
        obtain ⟨k, p, pre, hk, hpre, rfl, rfl, hp, hj, hown, hbel⟩ := hrel
        have c0 : wr.cell? ⟨r, 0, none⟩ = some (.string ⟨s.toArray⟩) := (hbel.cell (p := ⟨r, 0, none⟩) hr0).trans hc
        have cg : wr.cell? ⟨g, 0, none⟩ = some (.pointer (some ⟨r, 0, none⟩)) := (hbel.cell (p := ⟨g, 0, none⟩) hg0).trans hg
        have HJ := Lib.hid hj; have HP := Lib.hid hpre; have HC := Lib.hid hc; have HG := Lib.hid hg; have HO := Lib.hid hown; have HO1 := Lib.hid hown1
        clear hj hpre hc hg hown hown1
        by_cases hlt : k < n
        · have htx := rtext_spec r s p wr c0 hs hp
          have hcell : wr.cell? ⟨w.heap.size, k, none⟩ = some (.string ⟨#[]⟩) := by
            rw [HO.out.cellAt k (by omega), List.getElem?_append_right (by simp [strs, HP.out])]
            simp [strs, HP.out, List.getElem?_replicate]; omega
          have hfz : wr.frozen? ⟨w.heap.size, k, none⟩ = false := HO.out.frozenAt k
          cases hrt : Cd.readText s p with
          | none =>
            rw [hrt] at htx
            have HR := Lib.hid hrt; clear hrt
            go_wp2_with fail
            refine htx.mono ?_
            rintro e w' ⟨⟨y, rfl⟩, rfl⟩
            clear htx
            go_wp2
            go_ret3
            refine ⟨?_, hbel.setCell (p := ⟨w.heap.size, k, none⟩) (Nat.le_refl _) _⟩
            rw [HJ.out, show n - k = (n - k - 1) + 1 from by omega, joinM_bad HR.out]
            exact ⟨_, rfl⟩
          | some q =>
            obtain ⟨x, p'⟩ := q
            have hle := Cd.readText_le hrt hp
            rw [hrt] at htx
            have HR := Lib.hid hrt; clear hrt
            go_wp2_with fail
            refine htx.mono ?_
            rintro e w' ⟨he, rfl⟩
            obtain rfl := he
            clear htx
            go_wp2
            go_roundw
            case rel =>
              refine ⟨k + 1, p', pre ++ [x], by omega, by simp [HP.out], by go_num, rfl, hle.2.1, ?_, ?_, hbel.setCell (p := ⟨w.heap.size, k, none⟩) (Nat.le_refl _) _⟩
              · rw [HJ.out, show n - k = (n - (k + 1)) + 1 from by omega, joinM_step HR.out]
              · have := (HO.out.stored k (.string ⟨x.toArray⟩)).1
                rwa [set_strs HP.out hlt] at this
            case measure => simp [intOf]; omega
        · have hkn : n ≤ k := by omega
          go_wp2
          go_ret3
          refine ⟨?_, hbel⟩
          obtain rfl : k = n := by omega
          rw [HJ.out, Nat.sub_self]
          have hO := HO.out
          rw [Nat.sub_self] at hO
          simp only [List.replicate_zero, List.append_nil] at hO
          have hj2 : joinM pre (Cd.readMany s 0 p) = some (pre, p) := by simp [Cd.readMany, joinM]
          rw [hj2]
          exact ⟨_, rfl, by simpa [HP.out] using hO⟩
    · rw [readTexts_big hu hn]
      rw [hu] at hsc
      clear hu hle3
      have hn2 : (s.length : Int) - (next : Int) < (n : Int) := by omega
      clear hn
      go_enter Try.func47, Try.ntmps47
      go_wp2_with fail
      refine hsc.mono ?_
      rintro e w' ⟨he, rfl⟩
      obtain rfl := he
      clear hsc
      go_wp2
      go_ret3
      exact ⟨⟨_, rfl⟩, Below.refl _ _⟩

def textsR (s : List UInt8) (at_ : Nat) (e : Int) : List (List UInt8) × Nat × Int := if e ≠ 0 then ([], at_, e) else match Cd.readTexts s at_ with
  | some (n, next) => (n, next, 0)
  | none => ([], at_, 9)

theorem textsT_no (r g : Nat) (s : List UInt8) (at_ : Nat) (e : Int) (w : World) (h : Rr w r s at_ e) (he : e ≠ 0) :
    Calls Try.prog 46 #[.pointer (some ⟨r, 0, none⟩), .func (.func 47) #[] #[.pointer (some ⟨g, 0, none⟩)]] w fun e' w' => e' = .returned (.slice none 0 0) ∧ w = w' := by
  have c2 := h.c2
  have h2 : (e == 0) = false := by simpa using he
  have h3 : (e != 0) = true := by simpa using he
  clear he h
  go_enter Try.func46, Try.ntmps46
  go_wp2
  go_ret
  exact ⟨rfl, rfl⟩
set_option maxHeartbeats 400000 in
theorem textsT_ok (r g : Nat) (s : List UInt8) (at_ : Nat) (w : World) (h : Rr w r s at_ 0) (hg : w.cell? ⟨g, 0, none⟩ = some (.pointer (some ⟨r, 0, none⟩))) (hs : s.length ≤ 1099511627776) (ha : at_ ≤ s.length)
    (L : List (List UInt8)) (next : Nat) (hu : Cd.readTexts s at_ = some (L, next)) :
    Calls Try.prog 46 #[.pointer (some ⟨r, 0, none⟩), .func (.func 47) #[] #[.pointer (some ⟨g, 0, none⟩)]] w fun e' w' =>
      (∃ v, e' = .returned v ∧ w'.ownsRow w.heap.size 9 1 v L.length (strs L)) ∧ Rr w' r s next 0 ∧ Mod (fun k => k = r) w w' := by
  have c1 := h.c1
  have c2 := h.c2
  have hf := texts1_spec r g s at_ w h.c0 hg hs ha
  rw [hu] at hf
  have HH := Lib.hid h; clear h hu hg
  go_enter Try.func46, Try.ntmps46
  go_wp2_with fail
  refine hf.mono ?_
  rintro e w' ⟨⟨v, rfl, hown⟩, hb⟩
  have h1 := HH.out.below hb
  have f1 : w'.frozen? ⟨r, 1, none⟩ = false := Blk.frozen h1 1
  have d1 := h1.c1
  have H1 := Lib.hid h1; have HB := Lib.hid hb; have HO := Lib.hid hown
  clear hf h1 hb hown
  go_wp2
  go_ret
  refine ⟨⟨_, rfl, ?_⟩, H1.out.at1, (Mod.of_below HB.out _).trans (mod_set w' r 1 _)⟩
  exact (mod_set w' r 1 _).owns HO.out (fun k hk e => by have := (HO.out.lt k hk).1; have := Blk.lt HH.out; omega)
set_option maxHeartbeats 400000 in
theorem textsT_bad (r g : Nat) (s : List UInt8) (at_ : Nat) (w : World) (h : Rr w r s at_ 0) (hg : w.cell? ⟨g, 0, none⟩ = some (.pointer (some ⟨r, 0, none⟩))) (hs : s.length ≤ 1099511627776) (ha : at_ ≤ s.length)
    (hu : Cd.readTexts s at_ = none) :
    Calls Try.prog 46 #[.pointer (some ⟨r, 0, none⟩), .func (.func 47) #[] #[.pointer (some ⟨g, 0, none⟩)]] w fun e' w' =>
      e' = .returned (.slice none 0 0) ∧ Rr w' r s at_ 9 ∧ Mod (fun k => k = r) w w' := by
  have c1 := h.c1
  have c2 := h.c2
  have hf := texts1_spec r g s at_ w h.c0 hg hs ha
  rw [hu] at hf
  have HH := Lib.hid h; clear h hu hg
  go_enter Try.func46, Try.ntmps46
  go_wp2_with fail
  refine hf.mono ?_
  rintro e w' ⟨⟨y, rfl⟩, hb⟩
  have h1 := HH.out.below hb
  have f1 : w'.frozen? ⟨r, 2, none⟩ = false := Blk.frozen h1 2
  have d2 := h1.c2
  have H1 := Lib.hid h1; have HB := Lib.hid hb
  clear hf h1 hb
  go_wp2
  go_ret
  exact ⟨rfl, H1.out.at2, (Mod.of_below HB.out _).trans (mod_set w' r 2 _)⟩

/-- what Texts leaves: a slice of its own that holds the strings; the reader moved on -/
def MethT (r B : Nat) (s : List UInt8) (L : List (List UInt8)) (next : Nat) (e : Int) (w : World) (e' : Ending) (w' : World) : Prop :=
  ∃ v, e' = .returned v ∧ w'.ownsRow B 9 1 v L.length (strs L) ∧ Rr w' r s next e ∧ Mod (fun k => k = r) w w'

theorem textsT_spec (r g : Nat) (s : List UInt8) (at_ : Nat) (e : Int) (w : World) (h : Rr w r s at_ e) (hg : w.cell? ⟨g, 0, none⟩ = some (.pointer (some ⟨r, 0, none⟩))) (hs : s.length ≤ 1099511627776) (ha : at_ ≤ s.length) :
    Calls Try.prog 46 #[.pointer (some ⟨r, 0, none⟩), .func (.func 47) #[] #[.pointer (some ⟨g, 0, none⟩)]] w (MethT r w.heap.size s (textsR s at_ e).1 (textsR s at_ e).2.1 (textsR s at_ e).2.2 w) := by
  unfold textsR
  by_cases he : e = 0
  · subst he
    rw [if_neg (by simp)]
    cases hu : Cd.readTexts s at_ with
    | none => exact (textsT_bad r g s at_ w h hg hs ha hu).mono fun e' w' ⟨a, b, c⟩ => ⟨_, a, World.ownsRow_nil _ _ _ _, b, c⟩
    | some q => exact (textsT_ok r g s at_ w h hg hs ha q.1 q.2 hu).mono fun e' w' ⟨⟨v, a, o⟩, b, c⟩ => ⟨v, a, o, b, c⟩
  · rw [if_pos he]
    exact (textsT_no r g s at_ e w h he).mono fun e' w' ⟨a, b⟩ => by subst a; subst b; exact ⟨_, rfl, World.ownsRow_nil _ _ _ _, h, Mod.refl _ w⟩
theorem rtexts_spec (r : Nat) (s : List UInt8) (at_ : Nat) (e : Int) (w : World) (h : Rr w r s at_ e) (hs : s.length ≤ 1099511627776) (ha : at_ ≤ s.length) :
    Calls Try.prog 25 #[.pointer (some ⟨r, 0, none⟩)] w (MethT r w.heap.size s (textsR s at_ e).1 (textsR s at_ e).2.1 (textsR s at_ e).2.2 w) := by
  have ht := fun o hg => textsT_spec r w.heap.size s at_ e (w.alloc o) (Blk.alloc h _) hg hs ha
  clear h
  go_enter Try.func25, Try.ntmps25
  go_wp2_with fail
  refine (ht _ (one_new _ _ _)).mono ?_
  rintro e' w' ⟨v, rfl, h0, h1, h2⟩
  clear ht
  go_wp2
  go_ret
  refine ⟨_, rfl, owns_base h0 (fun k hk => ?_), h1, mod_alloc_first _ h2⟩
  have := (h0.lt k hk).1
  simp at this
  omega

theorem uintR_le {s : List UInt8} {at_ : Nat} {e : Int} (ha : at_ ≤ s.length) : (uintR s at_ e).2.1 ≤ s.length := by
  unfold uintR
  split
  · exact ha
  · cases h : Cd.readUint s at_ with
    | none => exact ha
    | some q => exact (Cd.readUint_le h ha).2.1
theorem intR_le {s : List UInt8} {at_ : Nat} {e : Int} (ha : at_ ≤ s.length) : (intR s at_ e).2.1 ≤ s.length := by
  unfold intR
  split
  · exact ha
  · cases h : Cd.readUns s at_ with
    | none => rw [readInt_none h]; exact ha
    | some q => rw [readInt_some h]; exact (Cd.readUns_le h ha).2.1
theorem countR_le {s : List UInt8} {at_ : Nat} {e m : Int} (ha : at_ ≤ s.length) : (countR s at_ e m).2.1 ≤ s.length := by
  unfold countR
  split
  · exact ha
  · cases h : Cd.readUint s at_ with
    | none => rw [readCount_none h]; exact ha
    | some q =>
      by_cases hq : (q.1 : Int) ≤ m
      · rw [readCount_some h hq]; exact (Cd.readUint_le h ha).2.1
      · rw [readCount_big h hq]; exact ha
theorem textR_le {s : List UInt8} {at_ : Nat} {e : Int} (ha : at_ ≤ s.length) : (textR s at_ e).2.1 ≤ s.length := by
  unfold textR
  split
  · exact ha
  · cases h : Cd.readText s at_ with
    | none => exact ha
    | some q => exact (Cd.readText_le h ha).2.1
theorem textsR_le {s : List UInt8} {at_ : Nat} {e : Int} (ha : at_ ≤ s.length) : (textsR s at_ e).2.1 ≤ s.length := by
  unfold textsR
  split
  · exact ha
  · cases h : Cd.readTexts s at_ with
    | none => exact ha
    | some q =>
      cases hu : Cd.readUint s at_ with
      | none => rw [readTexts_none hu] at h; cases h
      | some p =>
        by_cases hp : p.1 ≤ s.length - p.2
        · rw [readTexts_some hu hp] at h
          exact (Cd.readMany_le h (Cd.readUint_le hu ha).2.1).2.1
        · rw [readTexts_big hu hp] at h; cases h
end Go.Proofs.Ytalailodnmfmlaa
