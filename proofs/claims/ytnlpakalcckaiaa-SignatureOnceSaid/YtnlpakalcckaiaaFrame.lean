/-
  The frame of a law's proof: from a walk that returns true and keeps old memory to the statement; how strings and slices of strings come in. Conditions: none.
-/
import Derived.Test.YtnlpakalcckaiaaRows
import Derived.Test.YtnlpakalcckaiaaBase
import Derived.ProofKit
import Derived.OpenShut
import Derived.JoinedCond
import Derived.ShutString
import Derived.ChangeOld
namespace Go.Proofs.Ytnlpakalcckaiaa
set_option linter.unusedVariables false
open Go.ChangeShapes hiding strs
open Go.WideShapes Go.ChangeAt Go.RowKit

theorem own_knob : ownKnob Try.prog.godebug = none := by kernel_rfl
theorem laid_out : laidOutB Try.prog = true := by kernel_rfl

theorem below_trodAll {H : Type} {enc : TypeId × Value → H} {P : Program} (hl : laidOutB P = true) {W W' : World} (hb : Below W.heap.size W W') :
    ∀ {ts : List TypeId} {vs : List Value} {ds : List (DataW H)} {ps : List MemPlace}, (∀ t ∈ ts, P.readableRec t = true ∧ t < P.types.size) →
      DataW.TrodAll enc P W 0 (fun _ => true) true ts vs ds ps → DataW.TrodAll enc P W' 0 (fun b => decide (b < W.heap.size)) true ts vs ds ps
  | [], [], [], _, _, h => h
  | [], [], _ :: _, _, _, h => h.elim
  | [], _ :: _, _, _, _, h => h.elim
  | _ :: _, [], _, _, _, h => h.elim
  | _ :: _, _ :: _, [], _, _, h => h.elim
  | t :: ts, v :: vs, d :: ds, ps, hr, h => by
    obtain ⟨p, q, h1, h2, rfl⟩ := h
    have hlt : ∀ x ∈ p, x.block < W.heap.size := by obtain ⟨m, hm⟩ := h1; exact DataW.trod_lt m _ _ _ hm
    exact ⟨p, q, Below.trod hl (hr t (by simp)).1 (hr t (by simp)).2 h1 hb hlt, below_trodAll hl hb (fun t' ht' => hr t' (by simp [ht'])) h2, rfl⟩

/-- the end of a law: it returned true, and old memory is as it was -/
theorem law_post {H : Type} {enc : TypeId × Value → H} {P : Program} {f : Func} {s : ChangeSpec} {W W' : World} {args : Array Value} {ds gs : List (DataW H)} {before : List MemPlace} {tb : TypeId}
    (hl : laidOutB P = true) (hr' : (f.params.toList.all fun t => P.readableRec t && decide (t < P.types.size)) = true) (hrt : f.resultTypes = #[tb]) (htb : P.underlying tb = some .bool)
    (hv : s.vars = []) (hW : DataW.Whole enc P f.params.toList s.vars false W args.toList ds gs before)
    (h1 : (s.fn H (ds ++ gs)).results = [.lit (.bool true)]) (h2 : (s.fn H (ds ++ gs)).args = ds) (h3 : (s.fn H (ds ++ gs)).vars = []) (hb : Below W.heap.size W W') :
    s.post enc P f false true false false W args (.bool true) W' := by
  have hr : ∀ t ∈ f.params.toList, P.readableRec t = true ∧ t < P.types.size := fun t ht => by simpa using List.all_eq_true.1 hr' t ht
  have hW' := hW
  obtain ⟨p, q, hA, hV, rfl, hfz, hnd⟩ := hW
  refine ⟨ds, gs, _, [], p, [], hW', ?_, ?_, ?_, hb.frame _, fun h => by cases h⟩
  · rw [hrt, h1]
    exact trodAll_cons_mk (shut_bool htb true) trodAll_mk0
  · rw [h2]
    exact below_trodAll hl hb hr hA
  · rw [h3, hv]
    rfl

/-- a slice of strings that came in -/
theorem open_strs {H : Type} {enc : TypeId × Value → H} {P : Program} {t e : TypeId} {W : World} {base : Nat} {v : Value} {d : DataW H} {p : List MemPlace}
    (ht : P.underlying t = some (.slice e)) (he : P.underlying e = some .string) (hc : P.cellsOf e = 1) (hok : Value.okWide P W .any base t v)
    (h : DataW.Trod enc P W 0 (fun _ => true) true t v d p) :
    ∃ (A : Option Addr) (L : List (List UInt8)) (c : Nat), v = .slice A L.length c ∧ Rd W A (strs L) ∧ (A = none → L.length = 0 ∧ c = 0) ∧ L.length ≤ c ∧ c ≤ maxLen ∧ (∀ s ∈ L, s.length ≤ maxLen) ∧
      ((d = .nil ∧ L = []) ∨ ∃ rest, d = .slice (L.map fun s => .lit (.string s)) rest) := by
  obtain ⟨a0, len, cap, rfl⟩ := okWide_slice ht hok
  have hlt : ∀ x ∈ p, x.block < W.heap.size := by obtain ⟨m, hm⟩ := h; exact DataW.trod_lt m _ _ _ hm
  obtain ⟨fuel, hf⟩ := h
  rcases open_strings ht he hc hf with ⟨hcs, hx⟩ | ⟨a, len', cap', ss, hcs, _, hl, hm, hz, hx, hcell, hws⟩
  · simp [Value.cells] at hcs
    obtain ⟨rfl, rfl, rfl⟩ := hcs
    injection hx with hx _
    exact ⟨none, [], 0, rfl, Rd.nil _ _, fun _ => ⟨rfl, rfl⟩, Nat.le_refl _, by simp [maxLen], by simp, .inl ⟨hx, rfl⟩⟩
  · simp [Value.cells] at hcs
    obtain ⟨rfl, rfl, rfl⟩ := hcs
    simp at hz
    injection hx with hx1 hx2
    have hL : (ss.take len).map (fun s => s.data.toList) = (ss.take len).map (fun s => s.data.toList) := rfl
    have hlen : ((ss.take len).map fun s => s.data.toList).length = len := by simp; omega
    refine ⟨some a, (ss.take len).map fun s => s.data.toList, cap, by rw [hlen], ?_, (fun h => by cases h), by rw [hlen]; exact hl, hm, ?_, .inr ⟨ChangeShapes.strs (List.drop len ss), ?_⟩⟩
    · by_cases h0 : len = 0
      · left; subst h0; simp [strs]
      · have hc0 := hcell 0 (by omega)
        obtain ⟨b, off, spot⟩ := a
        have hspot : spot = none := by simpa [Addr.add] using World.cell?_spot hc0
        subst hspot
        right
        refine ⟨b, off, rfl, fun j hj => ?_⟩
        have hj' : j < len := by rw [strs_length, hlen] at hj; exact hj
        have hjs : j < ss.length := by omega
        have := hcell j hjs
        rw [Addr.add_lit] at this
        rw [this]
        simp [strs, hjs]
    · intro s hs
      simp only [List.mem_map] at hs
      obtain ⟨b, hb, rfl⟩ := hs
      have := hws b (List.mem_of_mem_take hb)
      show b.data.toList.length ≤ maxLen
      rw [Array.length_toList]
      exact this
    · rw [hx1, List.map_map]
      rfl

theorem bulk_strs {H : Type} (L : List (List UInt8)) : Rows.uptoBulkAll (L.map fun s => (DataW.lit (.string s) : DataW H)) = L.length + (L.map List.length).sum := by
  induction L with
  | nil => simp [Rows.uptoBulkAll]
  | cons x L ih => simp only [List.map_cons, Rows.uptoBulkAll, Rows.uptoBulk, ih, List.length_cons, List.sum_cons]; omega
theorem bulk_slice {H : Type} {d : DataW H} {L : List (List UInt8)} (h : (d = .nil ∧ L = []) ∨ ∃ rest, d = .slice (L.map fun s => .lit (.string s)) rest) : L.length + (L.map List.length).sum ≤ Rows.uptoBulk d := by
  rcases h with ⟨rfl, rfl⟩ | ⟨rest, rfl⟩
  · simp
  · simp only [Rows.uptoBulk, bulk_strs]; omega
theorem bulk_all {H : Type} {l : List (DataW H)} (hk : Rows.uptoSmall H l = true) : Rows.uptoBulkAll l ≤ 1048576 := of_decide_eq_true hk
/-- a string that came in -/
theorem open_bytes {H : Type} {enc : TypeId × Value → H} {P : Program} {t : TypeId} {W : World} {base : Nat} {v : Value} {d : DataW H} {p : List MemPlace}
    (ht : P.underlying t = some .string) (hok : Value.okWide P W .any base t v) (h : DataW.Trod enc P W 0 (fun _ => true) true t v d p) :
    ∃ l : List UInt8, v = .string ⟨l.toArray⟩ ∧ d = .lit (.string l) ∧ l.length ≤ maxLen := by
  obtain ⟨s, rfl, rfl, rfl, hm⟩ := ChangeMaps.open_string ht hok h
  exact ⟨s.data.toList, by simp, rfl, by rw [Array.length_toList]; exact hm⟩
theorem i64_bounds {n : Int} (h : (Lit.int .i64 n).wf = true) : -9223372036854775808 ≤ n ∧ n ≤ 9223372036854775807 := by
  simpa [Lit.wf, IntKind.min, IntKind.max, IntKind.signed, IntKind.bits] using h
theorem u16_bounds {n : Int} (h : (Lit.int .u16 n).wf = true) : 0 ≤ n ∧ n ≤ 65535 := by
  simpa [Lit.wf, IntKind.min, IntKind.max, IntKind.signed, IntKind.bits] using h
theorem u8_bounds {n : Int} (h : (Lit.int .u8 n).wf = true) : 0 ≤ n ∧ n ≤ 255 := by
  simpa [Lit.wf, IntKind.min, IntKind.max, IntKind.signed, IntKind.bits] using h
end Go.Proofs.Ytnlpakalcckaiaa
