/-
  Signing keys and signatures as they come in. Conditions: none.
-/
import Derived.Test.YtnlpakalcckaiaaGreatOpenF
namespace Go.Proofs.YtnlpakalcckaiaaGreat
set_option linter.unusedVariables false
open Go.ChangeShapes hiding strs
open Go.WideShapes Go.ChangeAt Go.RowKit

theorem open_skey {H : Type} {enc : TypeId × Value → H} {P : Program} {t ti ts : TypeId} {f0 f1 f2 : Field} {W : World} {base : Nat} {v : Value} {d : DataW H} {p : List MemPlace}
    (hs : P.underlying t = some (.struct #[f0, f1, f2])) (hone : Deep.oneCellFields P #[f0, f1, f2] = true) (hC : P.cellsOf t = 3) (h0 : f0.type = ts) (h1 : f1.type = ti) (h2 : f2.type = ti) (hti : P.underlying ti = some (.int .i64)) (hts : P.underlying ts = some .string)
    (hv : Value.okWide P W .any base t v) (h : DataW.Trod enc P W 0 (fun _ => true) true t v d p) :
    ∃ (s : List UInt8) (a b : Int), v = .agg #[.string ⟨s.toArray⟩, .int .i64 a, .int .i64 b] := by
  obtain ⟨v0, v1, v2, y0, y1, y2, n, rfl, rfl, _, t0, t1, t2⟩ := Joins.open_agg3 hs hone hC hv h
  rw [h0] at t0
  rw [h1] at t1
  rw [h2] at t2
  obtain ⟨s, hz0, _, _⟩ := DataW.trod_string hts t0
  obtain ⟨a, hz1, _, _⟩ := DataW.trod_int hti t1
  obtain ⟨b, hz2, _, _⟩ := DataW.trod_int hti t2
  simp at hz0 hz1 hz2
  subst hz0 hz1 hz2
  exact ⟨s.data.toList, a, b, by simp⟩
theorem open_sig {H : Type} {enc : TypeId × Value → H} {P : Program} {t ti ts te : TypeId} {f0 f1 f2 : Field} {W : World} {base : Nat} {v : Value} {d : DataW H} {p : List MemPlace}
    (hs : P.underlying t = some (.struct #[f0, f1, f2])) (hone : Deep.oneCellFields P #[f0, f1, f2] = true) (hC : P.cellsOf t = 3) (h0 : f0.type = ti) (h1 : f1.type = ts) (h2 : f2.type = ts) (hti : P.underlying ti = some (.int .i64)) (hts : P.underlying ts = some (.slice te)) (hte : P.underlying te = some .string) (hce : P.cellsOf te = 1)
    (hv : Value.okWide P W .any base t v) (h : DataW.Trod enc P W 0 (fun _ => true) true t v d p) :
    ∃ (i : Int) (A B : Option Addr) (C T : List (List UInt8)) (a b : Nat), v = .agg #[.int .i64 i, .slice A C.length a, .slice B T.length b] ∧ Rd W A (strs C) ∧ Rd W B (strs T) ∧ (A = none → C.length = 0 ∧ a = 0) ∧ (B = none → T.length = 0 ∧ b = 0) ∧ C.length ≤ a ∧ a ≤ maxLen ∧ T.length ≤ b ∧ b ≤ maxLen ∧ (Lit.int .i64 i).wf = true ∧ C.length + (C.map List.length).sum + (T.length + (T.map List.length).sum) ≤ Rows.uptoBulk d := by
  obtain ⟨v0, v1, v2, y0, y1, y2, n, rfl, rfl, _, t0, t1, t2⟩ := Joins.open_agg3 hs hone hC hv h
  rw [h0] at t0
  rw [h1] at t1
  rw [h2] at t2
  obtain ⟨z, hz, _, wz⟩ := DataW.trod_int hti t0
  obtain ⟨A, C, a, rfl, hR, hn, hl, hm, _, hd⟩ := strs_of hts hte hce t1
  obtain ⟨B, T, b, rfl, hR2, hn2, hl2, hm2, _, hd2⟩ := strs_of hts hte hce t2
  simp at hz
  subst hz
  have := bulk_slice hd
  have := bulk_slice hd2
  refine ⟨z, A, B, C, T, a, b, rfl, hR, hR2, hn, hn2, hl, hm, hl2, hm2, wz, ?_⟩
  simp only [Rows.uptoBulk, Rows.uptoBulkAll]
  omega
end Go.Proofs.YtnlpakalcckaiaaGreat
