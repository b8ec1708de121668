/-
  strings.Builder of the call's own: what it holds (Bu), and what WriteString and String do with it. Conditions: what is held stays below 2^47 bytes.
-/
import Derived.Test.YtolgldgabhhmaaaProg
import Derived.Test.YtolgldgabhhmaaaKit
import Derived.Lib.Builder
import Derived.Lib.UnsafeStr
import Derived.Lib.AppendStr
import Derived.Lib.FrozenHead
namespace Go.Proofs.Ytolgldgabhhmaaa
set_option linter.unusedVariables false
open Go.RowKit

theorem info_byte : (Try.prog.info? 5).map (fun i => (i.zero, i.size, i.bytes)) = some (some (.int .u8 0), 1, 1) := by kernel_rfl
theorem size_builder : (Try.prog.info? 43).map (fun i => i.size) = some 2 := by kernel_rfl
theorem cells_byte : Try.prog.cellsOf 5 = 1 := by kernel_rfl
theorem lies_builder : liesAt Try.prog Try.prog.depth 43 (2 / Try.prog.cellsOf 43) 0 43 1 = true := by kernel_rfl

/-- the builder in block b holds the bytes l; it and its buffer lie from block B on -/
def Bu (B b : Nat) (l : List UInt8) (w : World) : Prop := Lib.IsBuilderF 43 5 B b (vals l) w

theorem Bu.parts {B b : Nat} {l : List UInt8} {w : World} (h : Bu B b l w) : ∃ p, (p = .pointer none ∨ p = .pointer (some ⟨b, 0, none⟩)) ∧ Lib.BuilderAtF 43 5 B b p (vals l) w := by
  rcases h with h | h
  · exact ⟨_, .inl rfl, h⟩
  · exact ⟨_, .inr rfl, h⟩
theorem Bu.of_parts {B b : Nat} {l : List UInt8} {w : World} {p : Value} (hp : p = .pointer none ∨ p = .pointer (some ⟨b, 0, none⟩)) (h : Lib.BuilderAtF 43 5 B b p (vals l) w) : Bu B b l w := by
  rcases hp with rfl | rfl
  · exact .inl h
  · exact .inr h
theorem Bu.new (w : World) : Bu w.heap.size w.heap.size [] (w.alloc (.cells #[.pointer none, .slice none 0 0] 43)) :=
  Lib.IsBuilderF.of (Lib.fresh_isBuilder _ _ w)
theorem Bu.mod {S : Nat → Prop} {B b : Nat} {l : List UInt8} {w w' : World} (h : Bu B b l w) (hm : Mod S w w') (hs : ∀ k, B ≤ k → ¬ S k) : Bu B b l w' := by
  obtain ⟨p, hp, hB, v, hbk, hown, hne⟩ := h.parts
  refine Bu.of_parts hp ⟨hB, v, ?_, ?_, hne⟩
  · exact (hm.block b (by
      rcases Nat.lt_or_ge b w.heap.size with h' | h'
      · exact h'
      · simp [Array.getElem?_eq_none h'] at hbk) (hs b hB)).trans hbk
  · refine ⟨hown.1, ?_⟩
    rcases hown.2 with h2 | ⟨g, cap, cur, fz, rfl, hg, hh, r⟩
    · exact .inl h2
    · exact .inr ⟨g, cap, cur, fz, rfl, hg, (hm.block g (hown.lt g rfl).2 (hs g hg)).trans hh, r⟩
theorem Bu.below {B b : Nat} {l : List UInt8} {w w' : World} (h : Bu B b l w) (hb : Below w.heap.size w w') : Bu B b l w' := h.mod (Mod.of_below hb (fun _ => False)) (fun _ _ h => h)

set_option maxHeartbeats 400000 in
theorem copyCheck_spec (B b : Nat) (l : List UInt8) (w : World) (h : Bu B b l w) :
    Calls Try.prog 37 #[.pointer (some ⟨b, 0, none⟩)] w fun e w' => e = .returned (.tuple #[]) ∧ Lib.BuilderAtF 43 5 B b (.pointer (some ⟨b, 0, none⟩)) (vals l) w' ∧ Below B w w' := by
  obtain ⟨p, hp, hA⟩ := h.parts
  obtain ⟨j, hj, hjs⟩ := Option.map_eq_some_iff.1 size_builder
  rcases hp with rfl | rfl
  · have hres := hA.used (.pointer (some ⟨b, 0, none⟩))
    have hBb := hA.1
    have h0 := hA.cell0
    have hsh := hA.shape
    have hf := hA.frozen0
    have k1 := Lib.run_to_unsafe (P := Try.prog) w ⟨b, 0, none⟩ Try.underlying41 Try.underlying78 hj (by rw [hjs]; decide) hsh (Nat.zero_lt_succ 1)
    have k2 := Lib.run_from_unsafe (P := Try.prog) w ⟨b, 0, none⟩ Try.underlying78 Try.underlying41 hj hsh lies_builder
    clear hA hsh h
    go_enter Try.func37, Try.ntmps37
    go_wp2
    rw [run_callFunc_extern Try.func51 (by kernel_rfl) (by kernel_rfl) (by kernel_rfl) (e := Extern.AbiNoEscape.same) (by kernel_rfl)]
    rw [Lib.run_noEscape]
    simp only [Result.andThen]
    rw [Oper.upon_value]
    go_wp2
    go_end0
    exact ⟨rfl, hres, (Below.refl B w).setCell (p := ⟨b, 0, none⟩) hBb _⟩
  · have h0 := hA.cell0
    have k1 := Lib.run_neq_ptr_same (P := Try.prog) w ⟨b, 0, none⟩ Try.underlying41 hj
    have HA := Lib.hid hA; clear hA h
    go_enter Try.func37, Try.ntmps37
    go_wp2
    go_end0
    exact ⟨rfl, HA.out, Below.refl B w⟩

set_option maxHeartbeats 400000 in
theorem bu_write (B b : Nat) (l s : List UInt8) (w : World) (h : Bu B b l w) (hlen : l.length + s.length ≤ 140737488355328) (hBw : B ≤ w.heap.size) :
    Calls Try.prog 25 #[.pointer (some ⟨b, 0, none⟩), .string ⟨s.toArray⟩] w fun e w' => e = .returned (.tuple #[.int .i64 s.length, .nilIface]) ∧ Bu B b (l ++ s) w' ∧ Below B w w' := by
  obtain ⟨i0, hi, hz0, hz1, hz2⟩ := info_parts info_byte
  have hbs := bytes_size s
  go_enter Try.func25, Try.ntmps25
  go_wp2_with (go_at_call 37; refine (copyCheck_spec B b l _ h).mono ?_)
  rintro e w1 ⟨rfl, h1, hb1⟩
  obtain ⟨hB, v, hbk, hown, hne⟩ := h1
  have c0 : w1.cell? ⟨b, 0, none⟩ = some (.pointer (some ⟨b, 0, none⟩)) := by rw [Lib.cell_of_heap hbk]; rfl
  have c1 : w1.cell? ⟨b, 1, none⟩ = some v := by rw [Lib.cell_of_heap hbk]; rfl
  rw [vals_length] at hown
  have hsz := hb1.size
  have HS := Lib.hid hbs; clear hbs
  go_wp2_with (at_builtin; go_must (refine Lib.wpList_append_own_stringF _ rfl _ _ 34 9 rfl B 5 i0 Try.underlying34 Try.underlying9 hi hz0 hz1 hz2 _ _ _ rfl hown ⟨s.toArray⟩ rfl (by rw [HS.out]; unfold maxLen; omega) (by rw [HS.out]; omega) (by omega) ?_))
  intro v' w2 hown' hgrow _
  have hlt : b < w1.heap.size := by
    rcases Nat.lt_or_ge b w1.heap.size with h' | h'
    · exact h'
    · simp [Array.getElem?_eq_none h'] at hbk
  have hb2 : w2.heap[b]? = some (.cells #[.pointer (some ⟨b, 0, none⟩), v] 43 (0, 0)) := by
    rw [hgrow.block b hlt (fun e => hne e.symm)]
    exact hbk
  have d0 : w2.cell? ⟨b, 0, none⟩ = some (.pointer (some ⟨b, 0, none⟩)) := by rw [Lib.cell_of_heap hb2]; rfl
  have d1 : w2.cell? ⟨b, 1, none⟩ = some v := by rw [Lib.cell_of_heap hb2]; rfl
  have f1 : w2.frozen? ⟨b, 1, none⟩ = false := Lib.frozen_of_heap hb2 1
  obtain ⟨ao, n', cap, rfl⟩ : ∃ ao n' cap, v' = .slice ao n' cap := by
    rcases hown'.2 with ⟨hv, _⟩ | ⟨g, cap, cur, fz, hv, _⟩
    · exact ⟨_, _, _, hv⟩
    · exact ⟨_, _, _, hv⟩
  go_wp2
  go_ret2
  refine ⟨?_, ?_, ?_⟩
  · refine ret_eq ?_
    simp
  · refine Bu.of_parts (.inr rfl) (Lib.BuilderAtF.put (T := 43) (e := 5) hB hb2 (bs' := vals (l ++ s)) ?_ (by decide))
    simpa [vals, Lib.strCells] using hown'
  · exact (hb1.grown hgrow (by omega) (fun k hk => (hown.lt k hk).1)).setCell (p := ⟨b, 1, none⟩) hB _

set_option maxHeartbeats 400000 in
theorem bu_string (B b : Nat) (l : List UInt8) (w : World) (h : Bu B b l w) (hBw : B ≤ w.heap.size) :
    Calls Try.prog 26 #[.pointer (some ⟨b, 0, none⟩)] w fun e w' => e = .returned (.string ⟨l.toArray⟩) ∧ Bu B b l w' ∧ Below B w w' := by
  obtain ⟨p, hp, hA⟩ := h.parts
  have hA' := hA
  obtain ⟨hB, v, hbk, hown, hne⟩ := hA'
  rw [vals_length] at hown
  have hown2 := hown
  obtain ⟨hxl, hcase⟩ := hown2
  by_cases hl0 : l = []
  · subst hl0
    have hUS : ∀ q W, (Builtin.unsafeString_ #[65, 3] 9 #[.pointer q, .int .i64 0]).run Try.prog W = .ok (.string ⟨#[]⟩) W := fun q W => Lib.run_unsafeString_none (P := Try.prog) W _ _ _ q
    have hlt : b < w.heap.size := hA.lt
    rcases hcase with ⟨rfl, _⟩ | ⟨g, cap, cur, fz, rfl, hbg, hg, hfz, hnc, hcm, hcs, htake⟩
    · have c1 : w.drew.cell? ⟨b, 1, none⟩ = some (.slice none 0 0) := by
        have : w.drew.heap[b]? = some (.cells #[p, .slice none 0 0] 43 (0, 0)) := hbk
        rw [Lib.cell_of_heap this]; rfl
      have hSD : (Builtin.unsafeSliceData_ #[34] 65 #[.slice none 0 0]).run Try.prog w.drew = .ok (.pointer none) w.drew := rfl
      have HB := Lib.hid hbk; clear hbk
      have HH := Lib.hid h; clear h
      clear hown hA hxl
      go_enter Try.func26, Try.ntmps26
      go_wp2
      go_region
      all_goals (go_wp2; go_ret; exact ⟨rfl, HH.out.mod (Mod.drew (Mod.refl (fun _ => False) w)) (fun _ _ h => h), Below.drew (Below.refl B w)⟩)
    · by_cases hc0 : cap = 0
      · subst hc0
        have c1 : w.drew.cell? ⟨b, 1, none⟩ = some (.slice (some ⟨g, 0, none⟩) 0 0) := by
          have : w.drew.heap[b]? = some (.cells #[p, .slice (some ⟨g, 0, none⟩) 0 0] 43 (0, 0)) := hbk
          rw [Lib.cell_of_heap this]; rfl
        have hSD : (Builtin.unsafeSliceData_ #[34] 65 #[.slice (some ⟨g, 0, none⟩) 0 0]).run Try.prog w.drew = .ok (.pointer (some ⟨w.drew.heap.size, 0, none⟩)) (w.drew.alloc (.view ⟨g, 0, none⟩ 5)) :=
          Lib.run_unsafeSliceData_zero w.drew _ _ 5 Try.underlying65 ⟨g, 0, none⟩ 0 (5, cur.size) (by have hg' : w.drew.heap[g]? = some (.cells cur 5 fz) := hg; simp [World.shape?, hg'])
        have c2 : (w.drew.alloc (.view ⟨g, 0, none⟩ 5)).cell? ⟨b, 1, none⟩ = some (.slice (some ⟨g, 0, none⟩) 0 0) := by
          have : (w.drew.alloc (.view ⟨g, 0, none⟩ 5)).heap[b]? = _ := (Lib.alloc_old w.drew _ b hlt).trans hbk
          rw [Lib.cell_of_heap this]; rfl
        have c3 : (w.alloc (.view ⟨g, 0, none⟩ 5)).drew.cell? ⟨b, 1, none⟩ = some (.slice (some ⟨g, 0, none⟩) 0 0) := c2
        have c0 : w.cell? ⟨b, 1, none⟩ = some (.slice (some ⟨g, 0, none⟩) 0 0) := c1
        have HB := Lib.hid hbk; clear hbk
        have HH := Lib.hid h; clear h
        clear hown hA hxl hg
        go_enter Try.func26, Try.ntmps26
        go_wp2
        go_region
        all_goals (go_wp2; go_ret; exact ⟨rfl, HH.out.mod ((Mod.drew (Mod.refl (fun _ => False) w)).alloc _) (fun _ _ h => h), (Below.drew (Below.refl B w)).alloc hBw _⟩)
      · have c1 : w.drew.cell? ⟨b, 1, none⟩ = some (.slice (some ⟨g, 0, none⟩) 0 cap) := by
          have : w.drew.heap[b]? = some (.cells #[p, .slice (some ⟨g, 0, none⟩) 0 cap] 43 (0, 0)) := hbk
          rw [Lib.cell_of_heap this]; rfl
        have hSD : (Builtin.unsafeSliceData_ #[34] 65 #[.slice (some ⟨g, 0, none⟩) 0 cap]).run Try.prog w.drew = .ok (.pointer (some ⟨g, 0, none⟩)) w.drew :=
          Lib.run_unsafeSliceData_row _ _ _ _ _ _ hc0
        have HB := Lib.hid hbk; clear hbk
        have HH := Lib.hid h; clear h
        clear hown hA hxl hg hc0 htake hcs hfz
        go_enter Try.func26, Try.ntmps26
        go_wp2
        go_region
        all_goals (go_wp2; go_ret; exact ⟨rfl, HH.out.mod (Mod.drew (Mod.refl (fun _ => False) w)) (fun _ _ h => h), Below.drew (Below.refl B w)⟩)
  · have hlen : l.length ≠ 0 := by simpa using hl0
    obtain ⟨g, cap, cur, fz, rfl, hbg, hg, hfz, hnc, hcm, hcs, htake⟩ : ∃ g cap cur fz, v = .slice (some ⟨g, 0, none⟩) l.length cap ∧ B ≤ g ∧ w.heap[g]? = some (.cells cur 5 fz) ∧ fz.2 ≤ l.length * 1 ∧ l.length ≤ cap ∧ cap ≤ maxLen ∧ cur.size = cap * 1 ∧ cur.toList.take (l.length * 1) = vals l := by
      rcases hcase with ⟨_, hz⟩ | ⟨g, cap, cur, fz, hv, r⟩
      · exact absurd hz hlen
      · exact ⟨g, cap, cur, fz, hv, r⟩
    have c1 : w.drew.cell? ⟨b, 1, none⟩ = some (.slice (some ⟨g, 0, none⟩) l.length cap) := by
      have : w.drew.heap[b]? = some (.cells #[p, .slice (some ⟨g, 0, none⟩) l.length cap] 43 (0, 0)) := hbk
      rw [Lib.cell_of_heap this]; rfl
    have hSD : (Builtin.unsafeSliceData_ #[34] 65 #[.slice (some ⟨g, 0, none⟩) l.length cap]).run Try.prog w.drew = .ok (.pointer (some ⟨g, 0, none⟩)) w.drew :=
      Lib.run_unsafeSliceData_row _ _ _ _ _ _ (by omega)
    have hUS : (Builtin.unsafeString_ #[65, 3] 9 #[.pointer (some ⟨g, 0, none⟩), .int .i64 l.length]).run Try.prog w.drew = .ok (.string ⟨l.toArray⟩) (w.drew.freeze ⟨g, 0, none⟩ l.length) := by
      refine Lib.run_unsafeString_row w.drew 65 3 9 5 Try.underlying65 cells_byte g cur.size (by have hg' : w.drew.heap[g]? = some (.cells cur 5 fz) := hg; simp [World.shape?, hg']) l hl0 (by omega) (by unfold maxLen at hcm; omega) ?_
      intro j x hx
      have := hown.cells (g := g) rfl j (.int .u8 x.toNat) (by simp [vals, hx])
      exact this
    have hkeep : Bu B b l (w.drew.freeze ⟨g, 0, none⟩ l.length) := by
      have hF := hA.drew.froze (g := g) (cap := cap) (by rw [vals_length]; exact c1)
      rw [vals_length] at hF
      exact Bu.of_parts hp hF
    have HK := Lib.hid hkeep; clear hkeep
    clear hown hA h hbk hg hfz hcm hcs htake hxl hl0 hne hcase hnc hlen
    go_enter Try.func26, Try.ntmps26
    go_wp2
    go_region
    all_goals (go_wp2; go_ret; exact ⟨rfl, HK.out, Lib.below_freeze (Below.drew (Below.refl B w)) (p := ⟨g, 0, none⟩) hbg _⟩)

end Go.Proofs.Ytolgldgabhhmaaa
