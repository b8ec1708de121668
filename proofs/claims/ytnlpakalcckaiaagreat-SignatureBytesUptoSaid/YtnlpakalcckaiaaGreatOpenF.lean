/-
  What came in as a part of a struct: a list of strings; how large a struct is. Conditions: none.
-/
import Derived.Test.YtnlpakalcckaiaaGreatFrame
import Derived.Lib.SmallJoins
namespace Go.Proofs.YtnlpakalcckaiaaGreat
set_option linter.unusedVariables false
open Go.ChangeShapes hiding strs
open Go.WideShapes Go.ChangeAt Go.RowKit

theorem strs_of {H : Type} {enc : TypeId × Value → H} {P : Program} {t e : TypeId} {W : World} {n : Nat} {v : Value} {x : DataW H × List MemPlace}
    (ht : P.underlying t = some (.slice e)) (he : P.underlying e = some .string) (hc : P.cellsOf e = 1) (hf : DataW.trod enc P W 0 (fun _ => true) true n t [v] = some x) :
    ∃ (A : Option Addr) (L : List (List UInt8)) (c : Nat), v = .slice A L.length c ∧ Rd W A (strs L) ∧ (A = none → L.length = 0 ∧ c = 0) ∧ L.length ≤ c ∧ c ≤ maxLen ∧ (∀ s ∈ L, s.length ≤ maxLen) ∧
      ((x.1 = .nil ∧ L = []) ∨ ∃ rest, x.1 = .slice (L.map fun s => .lit (.string s)) rest) := by
  rcases open_strings ht he hc hf with ⟨hcs, hx⟩ | ⟨a, len', cap', ss, hcs, _, hl, hm, hz, hx, hcell, hws⟩
  · simp at hcs
    subst hcs
    subst hx
    exact ⟨none, [], 0, rfl, Rd.nil _ _, fun _ => ⟨rfl, rfl⟩, Nat.le_refl _, by simp [maxLen], by simp, .inl ⟨rfl, rfl⟩⟩
  · simp at hcs
    subst hcs
    simp at hz
    subst hx
    have hlen : ((ss.take len').map fun s => s.data.toList).length = len' := by simp; omega
    refine ⟨some a, (ss.take len').map fun s => s.data.toList, cap', by rw [hlen], ?_, (fun h => by cases h), by rw [hlen]; exact hl, hm, ?_, .inr ⟨ChangeShapes.strs (List.drop len' ss), ?_⟩⟩
    · by_cases h0 : len' = 0
      · left; subst h0; simp [strs]
      · have hc0 := hcell 0 (by omega)
        obtain ⟨b, off, spot⟩ := a
        have hspot : spot = none := by simpa [Addr.add] using World.cell?_spot hc0
        subst hspot
        right
        refine ⟨b, off, rfl, fun j hj => ?_⟩
        have hj' : j < len' := by rw [strs_length, hlen] at hj; exact hj
        have hjs : j < ss.length := by omega
        have := hcell j hjs
        rw [Addr.add_lit] at this
        rw [this]
        simp [strs, hjs]
    · intro s hs
      simp only [List.mem_map] at hs
      obtain ⟨b, hb, rfl⟩ := hs
      have := hws b (List.mem_of_mem_take hb)
      show b.data.toList.length ≤ maxLen
      rw [Array.length_toList]
      exact this
    · rw [List.map_map]
      rfl
/-- a struct of an int and a list of strings -/
theorem open_frontier {H : Type} {enc : TypeId × Value → H} {P : Program} {t ti ts te : TypeId} {f0 f1 : Field} {W : World} {base : Nat} {v : Value} {d : DataW H} {p : List MemPlace}
    (hs : P.underlying t = some (.struct #[f0, f1])) (hone : Deep.oneCellFields P #[f0, f1] = true) (hC : P.cellsOf t = 2) (h0 : f0.type = ti) (h1 : f1.type = ts) (hti : P.underlying ti = some (.int .i64)) (hts : P.underlying ts = some (.slice te)) (hte : P.underlying te = some .string) (hce : P.cellsOf te = 1)
    (hv : Value.okWide P W .any base t v) (h : DataW.Trod enc P W 0 (fun _ => true) true t v d p) :
    ∃ (z : Int) (A : Option Addr) (L : List (List UInt8)) (c : Nat), v = .agg #[.int .i64 z, .slice A L.length c] ∧ Rd W A (strs L) ∧ (A = none → L.length = 0 ∧ c = 0) ∧ L.length ≤ c ∧ c ≤ maxLen ∧ (Lit.int .i64 z).wf = true ∧ L.length + (L.map List.length).sum ≤ Rows.uptoBulk d := by
  obtain ⟨v0, v1, y0, y1, n, rfl, rfl, _, t0, t1⟩ := Joins.open_agg2 hs hone hC hv h
  rw [h0] at t0
  rw [h1] at t1
  obtain ⟨z, hz, _, wz⟩ := DataW.trod_int hti t0
  obtain ⟨A, L, c, rfl, hR, hn, hl, hm, _, hd⟩ := strs_of hts hte hce t1
  simp at hz
  subst hz
  have := bulk_slice hd
  refine ⟨z, A, L, c, rfl, hR, hn, hl, hm, wz, ?_⟩
  simp only [Rows.uptoBulk, Rows.uptoBulkAll]
  omega
end Go.Proofs.YtnlpakalcckaiaaGreat
