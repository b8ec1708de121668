/-
  A slice of structs of two ints (the calls of a reader) as it comes in. Conditions: none.
-/
import Derived.Test.YtalailodnmfmlaaFrame
namespace Go.Proofs.Ytalailodnmfmlaa
set_option linter.unusedVariables false
open Go.ChangeShapes hiding strs
open Go.WideShapes Go.ChangeAt Go.RowKit

/-- the address A leads to pairs of ints -/
def Rp (w : World) (A : Option Addr) (L : List (Int × Int)) : Prop :=
  L = [] ∨ ∃ b off, A = some ⟨b, off, none⟩ ∧ ∀ j (hj : j < L.length), w.cell? ⟨b, off + j * 2, none⟩ = some (.int .i64 L[j].1) ∧ w.cell? ⟨b, off + j * 2 + 1, none⟩ = some (.int .i64 L[j].2)
theorem Rp.below {w w' : World} {A : Option Addr} {L : List (Int × Int)} (h : Rp w A L) (hb : Below w.heap.size w w') : Rp w' A L := by
  rcases h with h | ⟨b, off, hA, hc⟩
  · exact .inl h
  · exact .inr ⟨b, off, hA, fun j hj => ⟨below_cell hb (hc j hj).1, below_cell hb (hc j hj).2⟩⟩
theorem Rp.at {w : World} {A : Option Addr} {L : List (Int × Int)} (h : Rp w A L) {k : Nat} (hk : k < L.length) : ∃ b off, A = some ⟨b, off, none⟩ ∧ w.cell? ⟨b, off + k * 2, none⟩ = some (.int .i64 L[k].1) ∧ w.cell? ⟨b, off + k * 2 + 1, none⟩ = some (.int .i64 L[k].2) := by
  rcases h with h | ⟨b, off, hA, hc⟩
  · subst h; simp at hk
  · exact ⟨b, off, hA, hc k hk⟩

theorem pair_at {H : Type} {enc : TypeId × Value → H} {P : Program} {e ti : TypeId} {f0 f1 : Field} {W : World} {base : Nat} {spare : Nat → Bool} {held : Bool} {n : Nat} {a : Addr} {x : DataW H × List MemPlace}
    (he : P.underlying e = some (.struct #[f0, f1])) (h0 : f0.type = ti) (h1 : f1.type = ti) (o0 : f0.offset = 0) (o1 : f1.offset = 1) (hti : P.underlying ti = some (.int .i64)) (hci : P.cellsOf ti = 1) (hce : P.cellsOf e = 2)
    (h : (W.cells? base a (P.cellsOf e)).bind (DataW.trod enc P W base spare held n e) = some x) :
    ∃ k m : Int, W.cell? (a.add 0) = some (.int .i64 k) ∧ W.cell? (a.add 1) = some (.int .i64 m) ∧ (Lit.int .i64 k).wf = true ∧ (Lit.int .i64 m).wf = true := by
  rw [hce, Option.bind_eq_some_iff] at h
  obtain ⟨cs, hcs, ht⟩ := h
  have hc := (World.cells?_some hcs).2.2
  obtain ⟨y0, y1, n', _, hl, hy0, hy1⟩ := trod_struct2 he ht
  rw [h0, o0, hci] at hy0
  rw [h1, o1, hci] at hy1
  rw [hce] at hl
  match cs, hl with
  | [c0, c1], _ =>
    obtain ⟨k, hk, _, wk⟩ := DataW.trod_int hti hy0
    obtain ⟨m, hm, _, wm⟩ := DataW.trod_int hti hy1
    simp at hk hm
    subst hk hm
    exact ⟨k, m, by simpa using hc 0 (by omega), by simpa using hc 1 (by omega), wk, wm⟩

theorem open_pairs {H : Type} {enc : TypeId × Value → H} {P : Program} {t e ti : TypeId} {f0 f1 : Field} {W : World} {base : Nat} {v : Value} {d : DataW H} {p : List MemPlace}
    (ht : P.underlying t = some (.slice e)) (he : P.underlying e = some (.struct #[f0, f1])) (hti : P.underlying ti = some (.int .i64)) (h0 : f0.type = ti) (h1 : f1.type = ti) (o0 : f0.offset = 0) (o1 : f1.offset = 1)
    (hci : P.cellsOf ti = 1) (hce : P.cellsOf e = 2) (hok : Value.okWide P W .any base t v)
    (h : DataW.Trod enc P W 0 (fun _ => true) true t v d p) :
    ∃ (A : Option Addr) (L : List (Int × Int)) (c : Nat), v = .slice A L.length c ∧ Rp W A L ∧ (A = none → L.length = 0 ∧ c = 0) ∧ L.length ≤ c ∧ c ≤ maxLen ∧
      (∀ q ∈ L, (Lit.int .i64 q.1).wf = true ∧ (Lit.int .i64 q.2).wf = true) := by
  obtain ⟨a0, len, cap, rfl⟩ := okWide_slice ht hok
  obtain ⟨fuel, hf⟩ := h
  rcases DataW.trod_slice ht hf with ⟨hcs, hx⟩ | ⟨a, len', cap', elems, rest, n, _, hcs, _, _, hl, hm, hlen, hel, _⟩
  · simp [Value.cells] at hcs
    obtain ⟨rfl, rfl, rfl⟩ := hcs
    exact ⟨none, [], 0, rfl, .inl rfl, fun _ => ⟨rfl, rfl⟩, Nat.le_refl _, by simp [maxLen], by simp⟩
  · simp [Value.cells] at hcs
    obtain ⟨rfl, rfl, rfl⟩ := hcs
    have each : ∀ i, i < len → ∃ q : Int × Int, W.cell? ((a.add (i * 2)).add 0) = some (.int .i64 q.1) ∧ W.cell? ((a.add (i * 2)).add 1) = some (.int .i64 q.2) ∧ (Lit.int .i64 q.1).wf = true ∧ (Lit.int .i64 q.2).wf = true := by
      intro i hi
      have := hel i hi
      rw [List.getElem?_eq_getElem (by omega)] at this
      obtain ⟨k, m, a1, a2, a3, a4⟩ := pair_at he h0 h1 o0 o1 hti hci hce this
      rw [hce] at a1 a2
      exact ⟨(k, m), a1, a2, a3, a4⟩
    obtain ⟨f, hfn⟩ : ∃ f : Nat → Int × Int, ∀ i, i < len → W.cell? ((a.add (i * 2)).add 0) = some (.int .i64 (f i).1) ∧ W.cell? ((a.add (i * 2)).add 1) = some (.int .i64 (f i).2) ∧ (Lit.int .i64 (f i).1).wf = true ∧ (Lit.int .i64 (f i).2).wf = true :=
      ⟨fun i => if hi : i < len then (each i hi).choose else (0, 0), fun i hi => by simp only [hi, dif_pos]; exact (each i hi).choose_spec⟩
    refine ⟨some a, (List.range len).map f, cap, by simp, ?_, (fun h => by cases h), by simpa using hl, hm, ?_⟩
    · by_cases hz : len = 0
      · left; subst hz; rfl
      · obtain ⟨b, off, spot⟩ := a
        have hc0 := (hfn 0 (by omega)).1
        have hspot : spot = none := by simpa [Addr.add] using World.cell?_spot hc0
        subst hspot
        right
        refine ⟨b, off, rfl, fun j hj => ?_⟩
        have hj' : j < len := by simpa using hj
        obtain ⟨q1, q2, _⟩ := hfn j hj'
        rw [Addr.add_lit, Addr.add_lit] at q1 q2
        simpa using ⟨q1, q2⟩
    · intro q hq
      obtain ⟨i, hi, rfl⟩ := List.mem_map.1 hq
      exact (hfn i (List.mem_range.1 hi)).2.2
end Go.Proofs.Ytalailodnmfmlaa
