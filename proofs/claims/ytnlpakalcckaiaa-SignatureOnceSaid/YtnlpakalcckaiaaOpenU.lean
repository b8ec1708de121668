/-
  Slices of small numbers as they come in. Conditions: none.
-/
import Derived.Test.YtnlpakalcckaiaaOpenG
namespace Go.Proofs.Ytnlpakalcckaiaa
set_option linter.unusedVariables false
open Go.ChangeShapes hiding strs
open Go.WideShapes Go.ChangeAt Go.RowKit Go.Deep

theorem vals_flat (L : List UInt8) : L.flatMap (fun x => [Value.int .u8 (x.toNat : Int)]) = vals L := by
  induction L with
  | nil => rfl
  | cons x L ih => simp only [List.flatMap_cons, ih]; rfl
theorem u8_byte {k : Int} (h : (Lit.int .u8 k).wf = true) : ((UInt8.ofNat k.toNat).toNat : Int) = k := by
  have := u8_bounds h
  rw [UInt8.toNat_ofNat']
  omega
section
variable {H : Type} {enc : TypeId × Value → H} {P : Program} {W : World}
/-- a slice of bytes -/
theorem open_vals {t e : TypeId} {v : Value} {d : DataW H} {p : List MemPlace} {base : Nat} (ht : P.underlying t = some (.slice e)) (he : P.underlying e = some (.int .u8)) (hce : P.cellsOf e = 1) (hok : Value.okWide P W .any base t v) (h : DataW.Trod enc P W 0 (fun _ => true) true t v d p) :
    ∃ (A : Option Addr) (L : List UInt8) (c : Nat), v = .slice A L.length c ∧ (A = none → L.length = 0 ∧ c = 0) ∧ L.length ≤ c ∧ c ≤ maxLen ∧ Rd W A (vals L) := by
  obtain ⟨a0, len, cap, rfl⟩ := okWide_slice ht hok
  obtain ⟨fuel, hf⟩ := h
  obtain ⟨A, L, c, h1, h2, h3, h4, h5, _⟩ := row_map (g := fun x : UInt8 => [Value.int .u8 (x.toNat : Int)]) (Good := fun _ => True) ht hce (by decide) (fun n' ci x' hx => by
    obtain ⟨k, hk, _, hw⟩ := DataW.trod_int he hx
    exact ⟨UInt8.ofNat k.toNat, by rw [u8_byte hw]; exact hk, trivial⟩) hf
  simp [Value.cells] at h1
  obtain ⟨rfl, rfl, rfl⟩ := h1
  exact ⟨_, L, _, rfl, h2, h3, h4, by rw [vals_flat] at h5; exact h5⟩
end
end Go.Proofs.Ytnlpakalcckaiaa
