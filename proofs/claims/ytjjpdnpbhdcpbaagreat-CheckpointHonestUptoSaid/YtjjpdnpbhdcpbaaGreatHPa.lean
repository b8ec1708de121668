/- Lemmas and contracts on what the walks need, several small texts in one. Conditions: as each theorem states. -/
import Derived.Test.YtjjpdnpbhdcpbaaGreatQBase
import Derived.WalkKit
import Derived.WalkSpells
import Derived.WalkLawsBesides
import Derived.Lib.Hide
import Derived.RegionTactic
import Derived.Deep.Draws
import Derived.Deep.QuietTactic
import Derived.BigQuiet
import Derived.Deep.LoopGhost
import Derived.Deep.DeepFit
import Derived.Deep.DeepCutAuto
import Derived.Maps.AppendAt
import Derived.Deep.RegionHeld3
import Derived.Deep.MidRow
import Derived.Deep.AppendLies
import Derived.Test.YtjjpdnpbhdcpbaaGreatProg
import Derived.Test.YtjjpdnpbhdcpbaaGreatQPa
import Derived.Test.YtjjpdnpbhdcpbaaGreatRows
import Derived.ProofKit
import Derived.OpenShut
import Derived.JoinedCond
import Derived.ShutString
import Derived.ChangeOld
import Derived.Deep.Strs
namespace Go.Proofs.YtjjpdnpbhdcpbaaGreat
set_option linter.unusedVariables false
open Go.RowKit
end Go.Proofs.YtjjpdnpbhdcpbaaGreat
namespace Go.Proofs.YtjjpdnpbhdcpbaaGreat
set_option linter.unusedVariables false
open Go.RowKit
end Go.Proofs.YtjjpdnpbhdcpbaaGreat
namespace Go.Proofs.YtjjpdnpbhdcpbaaGreat
set_option linter.unusedVariables false
end Go.Proofs.YtjjpdnpbhdcpbaaGreat
namespace Go.Proofs.YtjjpdnpbhdcpbaaGreat
set_option linter.unusedVariables false
open Go.RowKit
end Go.Proofs.YtjjpdnpbhdcpbaaGreat
namespace Go.Proofs.YtjjpdnpbhdcpbaaGreat
set_option linter.unusedVariables false
open Go.RowKit
end Go.Proofs.YtjjpdnpbhdcpbaaGreat
namespace Go.Proofs.YtjjpdnpbhdcpbaaGreat
set_option linter.unusedVariables false
open Go.RowKit
end Go.Proofs.YtjjpdnpbhdcpbaaGreat
namespace Go.Proofs.YtjjpdnpbhdcpbaaGreat
set_option linter.unusedVariables false
open Go.RowKit
theorem weight_take (L : List (List UInt8)) (k : Nat) (h : k < L.length) : ((L.take (k + 1)).map List.length).sum = ((L.take k).map List.length).sum + L[k].length := by
 rw [List.take_succ_eq_append_getElem h, List.map_append, List.sum_append]
 simp only [List.map_cons, List.map_nil, List.sum_cons, List.sum_nil, Nat.add_zero]
theorem weight_take_le (L : List (List UInt8)) (k : Nat) : ((L.take k).map List.length).sum ≤ (L.map List.length).sum := by
 have : (L.map List.length).sum = ((L.take k).map List.length).sum + ((L.drop k).map List.length).sum := by
  rw [← List.sum_append, ← List.map_append, List.take_append_drop]
 omega
end Go.Proofs.YtjjpdnpbhdcpbaaGreat
namespace Go.Proofs.YtjjpdnpbhdcpbaaGreat
set_option linter.unusedVariables false
open Go.RowKit
end Go.Proofs.YtjjpdnpbhdcpbaaGreat
namespace Go.Proofs.YtjjpdnpbhdcpbaaGreat
set_option linter.unusedVariables false
open Go.RowKit
end Go.Proofs.YtjjpdnpbhdcpbaaGreat
namespace Go.Proofs.YtjjpdnpbhdcpbaaGreat
theorem bk8 {w : World} {g : Nat} {t : TypeId} {cs : Array Value} (h : Blk w g t cs) : w.cell? ⟨g, 0, none⟩ = cs[0]? ∧ w.frozen? ⟨g, 0, none⟩ = false ∧ w.cell? ⟨g, 1, none⟩ = cs[1]? ∧ w.frozen? ⟨g, 1, none⟩ = false ∧ w.cell? ⟨g, 2, none⟩ = cs[2]? ∧ w.frozen? ⟨g, 2, none⟩ = false ∧ w.cell? ⟨g, 3, none⟩ = cs[3]? ∧ w.frozen? ⟨g, 3, none⟩ = false ∧ w.cell? ⟨g, 4, none⟩ = cs[4]? ∧ w.frozen? ⟨g, 4, none⟩ = false ∧ w.cell? ⟨g, 5, none⟩ = cs[5]? ∧ w.frozen? ⟨g, 5, none⟩ = false ∧ w.cell? ⟨g, 6, none⟩ = cs[6]? ∧ w.frozen? ⟨g, 6, none⟩ = false ∧ w.cell? ⟨g, 7, none⟩ = cs[7]? ∧ w.frozen? ⟨g, 7, none⟩ = false := ⟨h.cell 0, h.frozen 0, h.cell 1, h.frozen 1, h.cell 2, h.frozen 2, h.cell 3, h.frozen 3, h.cell 4, h.frozen 4, h.cell 5, h.frozen 5, h.cell 6, h.frozen 6, h.cell 7, h.frozen 7⟩
end Go.Proofs.YtjjpdnpbhdcpbaaGreat
namespace Go.Proofs.YtjjpdnpbhdcpbaaGreat
set_option linter.unusedVariables false
open Go.ChangeShapes hiding strs
open Go.WideShapes Go.ChangeAt Go.RowKit
theorem own_knob : ownKnob Tryz.prog.godebug = none := by kernel_rfl
theorem laid_out : laidOutB Tryz.prog = true := by kernel_rfl
theorem below_trodAll {H : Type} {enc : TypeId × Value → H} {P : Program} (hl : laidOutB P = true) {W W' : World} (hb : Below W.heap.size W W') :
 ∀ {ts : List TypeId} {vs : List Value} {ds : List (DataW H)} {ps : List MemPlace}, (∀ t ∈ ts, P.readableRec t = true ∧ t < P.types.size) →
   DataW.TrodAll enc P W 0 (fun _ => true) true ts vs ds ps → DataW.TrodAll enc P W' 0 (fun b => decide (b < W.heap.size)) true ts vs ds ps
 | [], [], [], _, _, h => h
 | [], [], _ :: _, _, _, h => h.elim
 | [], _ :: _, _, _, _, h => h.elim
 | _ :: _, [], _, _, _, h => h.elim
 | _ :: _, _ :: _, [], _, _, h => h.elim
 | t :: ts, v :: vs, d :: ds, ps, hr, h => by
   obtain ⟨p, q, h1, h2, rfl⟩ := h
   have hlt : ∀ x ∈ p, x.block < W.heap.size := by obtain ⟨m, hm⟩ := h1; exact DataW.trod_lt m _ _ _ hm
   exact ⟨p, q, Below.trod hl (hr t (by simp)).1 (hr t (by simp)).2 h1 hb hlt, below_trodAll hl hb (fun t' ht' => hr t' (by simp [ht'])) h2, rfl⟩
theorem law_post {H : Type} {enc : TypeId × Value → H} {P : Program} {f : Func} {s : ChangeSpec} {W W' : World} {args : Array Value} {ds gs : List (DataW H)} {before : List MemPlace} {tb : TypeId}
 (hl : laidOutB P = true) (hr' : (f.params.toList.all fun t => P.readableRec t && decide (t < P.types.size)) = true) (hrt : f.resultTypes = #[tb]) (htb : P.underlying tb = some .bool)
 (hv : s.vars = []) (hW : DataW.Whole enc P f.params.toList s.vars false W args.toList ds gs before)
 (h1 : (s.fn H (ds ++ gs)).results = [.lit (.bool true)]) (h2 : (s.fn H (ds ++ gs)).args = ds) (h3 : (s.fn H (ds ++ gs)).vars = []) (hb : Below W.heap.size W W') :
 s.post enc P f false true false false W args (.bool true) W' := by
 have hr : ∀ t ∈ f.params.toList, P.readableRec t = true ∧ t < P.types.size := fun t ht => by simpa using List.all_eq_true.1 hr' t ht
 have hW' := hW
 obtain ⟨p, q, hA, hV, rfl, hfz, hnd⟩ := hW
 refine ⟨ds, gs, _, [], p, [], hW', ?_, ?_, ?_, hb.frame _, fun h => by cases h⟩
 ·rw [hrt, h1]
  exact trodAll_cons_mk (shut_bool htb true) trodAll_mk0
 ·rw [h2]
  exact below_trodAll hl hb hr hA
 ·rw [h3, hv]
  rfl
theorem open_strs {H : Type} {enc : TypeId × Value → H} {P : Program} {t e : TypeId} {W : World} {base : Nat} {v : Value} {d : DataW H} {p : List MemPlace}
 (ht : P.underlying t = some (.slice e)) (he : P.underlying e = some .string) (hc : P.cellsOf e = 1) (hok : Value.okWide P W .any base t v)
 (h : DataW.Trod enc P W 0 (fun _ => true) true t v d p) :
 ∃ (A : Option Addr) (L : List (List UInt8)) (c : Nat), v = .slice A L.length c ∧ Rd W A (strs L) ∧ (A = none → L.length = 0 ∧ c = 0) ∧ L.length ≤ c ∧ c ≤ maxLen ∧ (∀ s ∈ L, s.length ≤ maxLen) ∧
   ((d = .nil ∧ L = []) ∨ ∃ rest, d = .slice (L.map fun s => .lit (.string s)) rest) := by
 obtain ⟨a0, len, cap, rfl⟩ := okWide_slice ht hok
 have hlt : ∀ x ∈ p, x.block < W.heap.size := by obtain ⟨m, hm⟩ := h; exact DataW.trod_lt m _ _ _ hm
 obtain ⟨fuel, hf⟩ := h
 rcases open_strings ht he hc hf with ⟨hcs, hx⟩ | ⟨a, len', cap', ss, hcs, _, hl, hm, hz, hx, hcell, hws⟩
 ·simp [Value.cells] at hcs
  obtain ⟨rfl, rfl, rfl⟩ := hcs
  injection hx with hx _
  exact ⟨none, [], 0, rfl, Rd.nil _ _, fun _ => ⟨rfl, rfl⟩, Nat.le_refl _, by simp [maxLen], by simp, .inl ⟨hx, rfl⟩⟩
 ·simp [Value.cells] at hcs
  obtain ⟨rfl, rfl, rfl⟩ := hcs
  simp at hz
  injection hx with hx1 hx2
  have hL : (ss.take len).map (fun s => s.data.toList) = (ss.take len).map (fun s => s.data.toList) := rfl
  have hlen : ((ss.take len).map fun s => s.data.toList).length = len := by simp; omega
  refine ⟨some a, (ss.take len).map fun s => s.data.toList, cap, by rw [hlen], ?_, (fun h => by cases h), by rw [hlen]; exact hl, hm, ?_, .inr ⟨ChangeShapes.strs (List.drop len ss), ?_⟩⟩
  ·by_cases h0 : len = 0
   ·left; subst h0; simp [strs]
   ·have hc0 := hcell 0 (by omega)
    obtain ⟨b, off, spot⟩ := a
    have hspot : spot = none := by simpa [Addr.add] using World.cell?_spot hc0
    subst hspot
    right
    refine ⟨b, off, rfl, fun j hj => ?_⟩
    have hj' : j < len := by rw [strs_length, hlen] at hj; exact hj
    have hjs : j < ss.length := by omega
    have := hcell j hjs
    rw [Addr.add_lit] at this
    rw [this]
    simp [strs, hjs]
  ·intro s hs
   simp only [List.mem_map] at hs
   obtain ⟨b, hb, rfl⟩ := hs
   have := hws b (List.mem_of_mem_take hb)
   show b.data.toList.length ≤ maxLen
   rw [Array.length_toList]
   exact this
  ·rw [hx1, List.map_map]
   rfl
theorem bulk_strs {H : Type} (L : List (List UInt8)) : Rows.uptoBulkAll (L.map fun s => (DataW.lit (.string s) : DataW H)) = L.length + (L.map List.length).sum := by
 induction L with
 | nil => simp [Rows.uptoBulkAll]
 | cons x L ih => simp only [List.map_cons, Rows.uptoBulkAll, Rows.uptoBulk, ih, List.length_cons, List.sum_cons]; omega
theorem bulk_slice {H : Type} {d : DataW H} {L : List (List UInt8)} (h : (d = .nil ∧ L = []) ∨ ∃ rest, d = .slice (L.map fun s => .lit (.string s)) rest) : L.length + (L.map List.length).sum ≤ Rows.uptoBulk d := by
 rcases h with ⟨rfl, rfl⟩ | ⟨rest, rfl⟩
 ·simp
 ·simp only [Rows.uptoBulk, bulk_strs]; omega
theorem bulk_all {H : Type} {l : List (DataW H)} (hk : Rows.uptoSmall H l = true) : Rows.uptoBulkAll l ≤ 1048576 := of_decide_eq_true hk
theorem u8_bounds {n : Int} (h : (Lit.int .u8 n).wf = true) : 0 ≤ n ∧ n ≤ 255 := by
 simpa [Lit.wf, IntKind.min, IntKind.max, IntKind.signed, IntKind.bits] using h
end Go.Proofs.YtjjpdnpbhdcpbaaGreat
namespace Go.Proofs.YtjjpdnpbhdcpbaaGreat
set_option linter.unusedVariables false
open Go.ChangeShapes hiding strs
open Go.WideShapes Go.ChangeAt Go.RowKit Go.Deep
section
variable {H : Type} {enc : TypeId × Value → H} {P : Program} {W : World}
theorem row_of {t e : TypeId} {m n : Nat} {cs : List Value} {x : DataW H × List MemPlace} (ht : P.underlying t = some (.slice e)) (hce : P.cellsOf e = m) (hm : 0 < m) (h : DataW.trod enc P W 0 (fun _ => true) true n t cs = some x) :
 ∃ (A : Option Addr) (l c : Nat) (f : Nat → List Value), cs = [.slice A l c] ∧ (A = none → l = 0 ∧ c = 0) ∧ l ≤ c ∧ c ≤ maxLen ∧ Rd W A ((List.range l).flatMap f) ∧ (∀ i, (f i).length = m) ∧ ∀ i, i < l → ∃ n' x', DataW.trod enc P W 0 (fun _ => true) true n' e (f i) = some x' := by
 rcases DataW.trod_slice ht h with ⟨hcs, hx⟩ | ⟨a, len, cap, elems, rest, n', _, hcs, _, _, hl, hmx, hlen, hel, _⟩
 ·exact ⟨none, 0, 0, fun _ => List.replicate m default, hcs, fun _ => ⟨rfl, rfl⟩, Nat.le_refl _, by simp [maxLen], Rd.nil _ _, fun _ => by simp, fun i hi => by omega⟩
 ·have each : ∀ i, i < len → ∃ ci : List Value, ci.length = m ∧ (∀ j (hj : j < ci.length), W.cell? ((a.add (i * m)).add j) = some ci[j]) ∧ ∃ x', DataW.trod enc P W 0 (fun _ => true) true n' e ci = some x' := by
   intro i hi
   have := hel i hi
   rw [List.getElem?_eq_getElem (by omega), hce, Option.bind_eq_some_iff] at this
   obtain ⟨ci, hci, ht'⟩ := this
   obtain ⟨_, h2, h3⟩ := World.cells?_some hci
   exact ⟨ci, h2, fun j hj => by rw [h3 j (by omega), List.getElem?_eq_getElem hj], _, ht'⟩
  obtain ⟨f, hf⟩ : ∃ f : Nat → List Value, ∀ i, (f i).length = m ∧ (i < len → (∀ j (hj : j < (f i).length), W.cell? ((a.add (i * m)).add j) = some (f i)[j]) ∧ ∃ x', DataW.trod enc P W 0 (fun _ => true) true n' e (f i) = some x') := by
   refine ⟨fun i => if hi : i < len then (each i hi).choose else List.replicate m default, fun i => ?_⟩
   by_cases hi : i < len
   ·simp only [hi, dif_pos]
    have q := (each i hi).choose_spec
    exact ⟨q.1, fun _ => q.2⟩
   ·simp [hi]
  refine ⟨some a, len, cap, f, hcs, (fun h => by cases h), hl, hmx, ?_, fun i => (hf i).1, fun i hi => ⟨n', (hf i).2 hi |>.2⟩⟩
  by_cases hz : len = 0
  ·left; subst hz; rfl
  ·obtain ⟨b, off, spot⟩ := a
   have hc0 := ((hf 0).2 (by omega)).1 0 (by rw [(hf 0).1]; exact hm)
   have hspot : spot = none := by simpa [Addr.add] using World.cell?_spot hc0
   subst hspot
   right
   refine ⟨b, off, rfl, fun j hj => ?_⟩
   have hjl : j < len * m := by rw [flat_len f m (fun i => (hf i).1)] at hj; simpa using hj
   have hd : j / m < len := Nat.div_lt_of_lt_mul (by rw [Nat.mul_comm]; exact hjl)
   have hr : j % m < m := Nat.mod_lt _ hm
   have hq := ((hf (j / m)).2 hd).1 (j % m) (by rw [(hf _).1]; exact hr)
   have hu : (f (j / m))[j % m]? = some ((f (j / m))[j % m]'(by rw [(hf _).1]; exact hr)) := List.getElem?_eq_getElem _
   generalize (f (j / m))[j % m]'(by rw [(hf _).1]; exact hr) = u at hq hu
   have e1 : off + j / m * m + j % m = off + j := by have := Nat.div_add_mod j m; rw [Nat.mul_comm] at this; omega
   rw [Addr.add_lit, Addr.add_lit, e1] at hq
   have hg := flat_get f m (fun i => (hf i).1) (List.range len) (j / m) (j % m) (by simpa using hd) hr
   have e2 : j / m * m + j % m = j := by have := Nat.div_add_mod j m; rw [Nat.mul_comm] at this; omega
   rw [e2, List.getElem_range, hu, List.getElem?_eq_getElem hj] at hg
   exact hq.trans hg.symm
theorem flat_map {α : Type} {l : Nat} {f : Nat → List Value} {g : Nat → α} {h : α → List Value} (hh : ∀ i, i < l → f i = h (g i)) : (List.range l).flatMap f = ((List.range l).map g).flatMap h := by
 rw [List.flatMap_map]
 induction l with
 | zero => rfl
 | succ l ih =>
   rw [List.range_succ, List.flatMap_append, List.flatMap_append, ih (fun i hi => hh i (by omega))]
   simp [hh l (by omega)]
theorem row_map {α : Type} [Inhabited α] {t e : TypeId} {m n : Nat} {cs : List Value} {x : DataW H × List MemPlace} {g : α → List Value} {Good : α → Prop} (ht : P.underlying t = some (.slice e)) (hce : P.cellsOf e = m) (hm : 0 < m)
 (hg : ∀ n' ci x', DataW.trod enc P W 0 (fun _ => true) true n' e ci = some x' → ∃ a, ci = g a ∧ Good a) (h : DataW.trod enc P W 0 (fun _ => true) true n t cs = some x) :
 ∃ (A : Option Addr) (L : List α) (c : Nat), cs = [.slice A L.length c] ∧ (A = none → L.length = 0 ∧ c = 0) ∧ L.length ≤ c ∧ c ≤ maxLen ∧ Rd W A (L.flatMap g) ∧ ∀ a ∈ L, Good a := by
 obtain ⟨A, l, c, f, h1, h2, h3, h4, h5, h6, h7⟩ := row_of ht hce hm h
 have each : ∀ i, i < l → ∃ a, f i = g a ∧ Good a := fun i hi => by obtain ⟨n', x', hx⟩ := h7 i hi; exact hg n' _ x' hx
 obtain ⟨k, hk⟩ : ∃ k : Nat → α, ∀ i, i < l → f i = g (k i) ∧ Good (k i) :=
  ⟨fun i => if hi : i < l then (each i hi).choose else default, fun i hi => by simp only [hi, dif_pos]; exact (each i hi).choose_spec⟩
 refine ⟨A, (List.range l).map k, c, by simpa using h1, by simpa using h2, by simpa using h3, h4, ?_, ?_⟩
 ·rw [← flat_map (fun i hi => (hk i hi).1)]; exact h5
 ·intro a ha
  obtain ⟨i, hi, rfl⟩ := List.mem_map.1 ha
  exact (hk i (List.mem_range.1 hi)).2
end
end Go.Proofs.YtjjpdnpbhdcpbaaGreat
namespace Go.Proofs.YtjjpdnpbhdcpbaaGreat
set_option linter.unusedVariables false
open Go.ChangeShapes hiding strs
open Go.WideShapes Go.ChangeAt Go.RowKit Go.Deep
theorem vals_flat (L : List UInt8) : L.flatMap (fun x => [Value.int .u8 (x.toNat : Int)]) = vals L := by
 induction L with
 | nil => rfl
 | cons x L ih => simp only [List.flatMap_cons, ih]; rfl
theorem u8_byte {k : Int} (h : (Lit.int .u8 k).wf = true) : ((UInt8.ofNat k.toNat).toNat : Int) = k := by
 have := u8_bounds h
 rw [UInt8.toNat_ofNat']
 omega
section
variable {H : Type} {enc : TypeId × Value → H} {P : Program} {W : World}
theorem open_vals {t e : TypeId} {v : Value} {d : DataW H} {p : List MemPlace} {base : Nat} (ht : P.underlying t = some (.slice e)) (he : P.underlying e = some (.int .u8)) (hce : P.cellsOf e = 1) (hok : Value.okWide P W .any base t v) (h : DataW.Trod enc P W 0 (fun _ => true) true t v d p) :
 ∃ (A : Option Addr) (L : List UInt8) (c : Nat), v = .slice A L.length c ∧ (A = none → L.length = 0 ∧ c = 0) ∧ L.length ≤ c ∧ c ≤ maxLen ∧ Rd W A (vals L) := by
 obtain ⟨a0, len, cap, rfl⟩ := okWide_slice ht hok
 obtain ⟨fuel, hf⟩ := h
 obtain ⟨A, L, c, h1, h2, h3, h4, h5, _⟩ := row_map (g := fun x : UInt8 => [Value.int .u8 (x.toNat : Int)]) (Good := fun _ => True) ht hce (by decide) (fun n' ci x' hx => by
  obtain ⟨k, hk, _, hw⟩ := DataW.trod_int he hx
  exact ⟨UInt8.ofNat k.toNat, by rw [u8_byte hw]; exact hk, trivial⟩) hf
 simp [Value.cells] at h1
 obtain ⟨rfl, rfl, rfl⟩ := h1
 exact ⟨_, L, _, rfl, h2, h3, h4, by rw [vals_flat] at h5; exact h5⟩
end
end Go.Proofs.YtjjpdnpbhdcpbaaGreat
