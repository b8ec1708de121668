/-
  Checkpoints, witnesses, evidence and lists of rotations as they come in. Conditions: none.
-/
import Derived.Test.YtjjpdnpbhdcpbaaGreatOPa
import Derived.Test.YtjjpdnpbhdcpbaaGreatOPb
import Derived.Test.YtjjpdnpbhdcpbaaGreatQCkX
import Derived.Test.YtjjpdnpbhdcpbaaGreatQPe
import Derived.Test.YtjjpdnpbhdcpbaaGreatQPd
import Derived.Test.YtjjpdnpbhdcpbaaGreatQCkL
import Derived.Test.YtjjpdnpbhdcpbaaGreatQCkK
import Derived.Test.YtjjpdnpbhdcpbaaGreatQCkJ
import Derived.Test.YtjjpdnpbhdcpbaaGreatQCkI
import Derived.Test.YtjjpdnpbhdcpbaaGreatQCkH
import Derived.Test.YtjjpdnpbhdcpbaaGreatQCkF
import Derived.Test.YtjjpdnpbhdcpbaaGreatQCkE
import Derived.Test.YtjjpdnpbhdcpbaaGreatQPa
import Derived.Test.YtjjpdnpbhdcpbaaGreatQCkC
import Derived.Test.YtjjpdnpbhdcpbaaGreatQPc
import Derived.Test.YtjjpdnpbhdcpbaaGreatOSgR
import Derived.Deep.Strs
import Derived.Test.YtjjpdnpbhdcpbaaGreatQBase
import Derived.Maps.OwnSet
import Derived.Test.YtjjpdnpbhdcpbaaGreatQPb
import Derived.Test.YtjjpdnpbhdcpbaaGreatQSgJ
import Derived.Test.YtjjpdnpbhdcpbaaGreatQSgI
import Derived.Test.YtjjpdnpbhdcpbaaGreatQSgH
import Derived.Test.YtjjpdnpbhdcpbaaGreatQSgG
import Derived.Test.YtjjpdnpbhdcpbaaGreatQSgF
import Derived.Test.YtjjpdnpbhdcpbaaGreatQCdA
import Derived.Test.YtjjpdnpbhdcpbaaGreatQMkB
import Derived.Test.YtjjpdnpbhdcpbaaGreatQShaB
import Derived.Test.YtjjpdnpbhdcpbaaGreatQShaA
import Derived.Test.YtjjpdnpbhdcpbaaGreatProg
import Derived.Laws.BitsAllLaws
import Derived.BigQuiet
import Derived.BigRegion
import Derived.Deep.RegionHeld3
import Derived.Test.YtjjpdnpbhdcpbaaGreatLayC
import Derived.Test.YtjjpdnpbhdcpbaaGreatLay
import Derived.Laws.CopyRow
import Derived.Laws.IdiomStrings
import Derived.Lib.Bytealg
import Derived.Laws.MakeOwn
import Derived.Test.YtjjpdnpbhdcpbaaGreatLayR
import Derived.Lib.OthersKept
import Derived.Test.YtjjpdnpbhdcpbaaGreatQSgD
import Derived.RangeFuncNested
import Derived.RangeFuncBound
import Derived.RangeFuncCalls
import Derived.RangeFuncLeaves
import Derived.Shelf.Abstract
import Derived.Shelf.RegionOpen
import Derived.OwnWalkIn
import Derived.TacticsInMore
import Derived.LoopNIn
import Derived.LoopIn
import Derived.Lib.FrozenHead2
import Derived.OrdersIn
import Derived.RangeFuncFrom
import Derived.Laws.ResultCell
import Derived.Test.YtjjpdnpbhdcpbaaGreatQCdB
import Derived.Laws.DeepNot64
namespace Go.Proofs.YtjjpdnpbhdcpbaaGreat
set_option linter.unusedVariables false
open Go.ChangeShapes hiding strs
open Go.WideShapes Go.ChangeAt Go.RowKit
theorem bulk_mem {H : Type} {d : DataW H} : ∀ {l : List (DataW H)}, d ∈ l → Rows.uptoBulk d ≤ Rows.uptoBulkAll l
 | [], h => by cases h
 | e :: l, h => by
   rw [Rows.uptoBulkAll]
   rcases List.mem_cons.1 h with rfl | h
   ·omega
   ·have := bulk_mem h
    omega
structure BaseT (P : Program) (ti tt ts : TypeId) : Prop where
 i : P.underlying ti = some (.int .i64)
 t : P.underlying tt = some .string
 s : P.underlying ts = some (.slice tt)
 ci : P.cellsOf ti = 1
 ct : P.cellsOf tt = 1
 cs : P.cellsOf ts = 1
def Two (P : Program) (t u0 u1 : TypeId) (o1 : Nat) : Prop := ∃ f0 f1, P.underlying t = some (.struct #[f0, f1]) ∧ f0.type = u0 ∧ f1.type = u1 ∧ f0.offset = 0 ∧ f1.offset = o1
def Three (P : Program) (t u0 u1 u2 : TypeId) (o1 o2 : Nat) : Prop := ∃ f0 f1 f2, P.underlying t = some (.struct #[f0, f1, f2]) ∧ f0.type = u0 ∧ f1.type = u1 ∧ f2.type = u2 ∧ f0.offset = 0 ∧ f1.offset = o1 ∧ f2.offset = o2
def Four (P : Program) (t u0 u1 u2 u3 : TypeId) (o1 o2 o3 : Nat) : Prop := ∃ f0 f1 f2 f3, P.underlying t = some (.struct #[f0, f1, f2, f3]) ∧ f0.type = u0 ∧ f1.type = u1 ∧ f2.type = u2 ∧ f3.type = u3 ∧ f0.offset = 0 ∧ f1.offset = o1 ∧ f2.offset = o2 ∧ f3.offset = o3
section
variable {H : Type} {enc : TypeId × Value → H} {P : Program} {W : World} {n : Nat} {cs : List Value} {x : DataW H × List MemPlace} {t u0 u1 u2 u3 : TypeId} {o1 o2 o3 : Nat}
theorem two_cells (k : Two P t u0 u1 o1) (h : DataW.trod enc P W 0 (fun _ => true) true n t cs = some x) :
 ∃ y0 y1 m, x.1 = .agg [y0.1, y1.1] ∧ cs.length = P.cellsOf t ∧ DataW.trod enc P W 0 (fun _ => true) true m u0 (cs.take (P.cellsOf u0)) = some y0 ∧ DataW.trod enc P W 0 (fun _ => true) true m u1 ((cs.drop o1).take (P.cellsOf u1)) = some y1 := by
 obtain ⟨f0, f1, hu, rfl, rfl, e0, rfl⟩ := k
 obtain ⟨xs, m, _, rfl, hl, hlen, hf⟩ := DataW.trod_struct hu h
 match xs, hlen with
 | [y0, y1], _ =>
   have h0 := hf 0 f0 rfl
   rw [e0] at h0
   exact ⟨y0, y1, m, rfl, hl, by simpa using h0, by simpa using hf 1 f1 rfl⟩
theorem three_cells (k : Three P t u0 u1 u2 o1 o2) (h : DataW.trod enc P W 0 (fun _ => true) true n t cs = some x) :
 ∃ y0 y1 y2 m, x.1 = .agg [y0.1, y1.1, y2.1] ∧ cs.length = P.cellsOf t ∧ DataW.trod enc P W 0 (fun _ => true) true m u0 (cs.take (P.cellsOf u0)) = some y0 ∧ DataW.trod enc P W 0 (fun _ => true) true m u1 ((cs.drop o1).take (P.cellsOf u1)) = some y1 ∧ DataW.trod enc P W 0 (fun _ => true) true m u2 ((cs.drop o2).take (P.cellsOf u2)) = some y2 := by
 obtain ⟨f0, f1, f2, hu, rfl, rfl, rfl, e0, rfl, rfl⟩ := k
 obtain ⟨xs, m, _, rfl, hl, hlen, hf⟩ := DataW.trod_struct hu h
 match xs, hlen with
 | [y0, y1, y2], _ =>
   have h0 := hf 0 f0 rfl
   rw [e0] at h0
   exact ⟨y0, y1, y2, m, rfl, hl, by simpa using h0, by simpa using hf 1 f1 rfl, by simpa using hf 2 f2 rfl⟩
theorem four_cells (k : Four P t u0 u1 u2 u3 o1 o2 o3) (h : DataW.trod enc P W 0 (fun _ => true) true n t cs = some x) :
 ∃ y0 y1 y2 y3 m, x.1 = .agg [y0.1, y1.1, y2.1, y3.1] ∧ cs.length = P.cellsOf t ∧ DataW.trod enc P W 0 (fun _ => true) true m u0 (cs.take (P.cellsOf u0)) = some y0 ∧ DataW.trod enc P W 0 (fun _ => true) true m u1 ((cs.drop o1).take (P.cellsOf u1)) = some y1 ∧ DataW.trod enc P W 0 (fun _ => true) true m u2 ((cs.drop o2).take (P.cellsOf u2)) = some y2 ∧ DataW.trod enc P W 0 (fun _ => true) true m u3 ((cs.drop o3).take (P.cellsOf u3)) = some y3 := by
 obtain ⟨f0, f1, f2, f3, hu, rfl, rfl, rfl, rfl, e0, rfl, rfl, rfl⟩ := k
 obtain ⟨xs, m, _, rfl, hl, hlen, hf⟩ := DataW.trod_struct hu h
 match xs, hlen with
 | [y0, y1, y2, y3], _ =>
   have h0 := hf 0 f0 rfl
   rw [e0] at h0
   exact ⟨y0, y1, y2, y3, m, rfl, hl, by simpa using h0, by simpa using hf 1 f1 rfl, by simpa using hf 2 f2 rfl, by simpa using hf 3 f3 rfl⟩
end
def SigIn (W : World) (i : Int) (A B : Option Addr) (C T : List Sg.Str) (a b n : Nat) : Prop := Rd W A (strs C) ∧ Rd W B (strs T) ∧ (A = none → C.length = 0 ∧ a = 0) ∧ (B = none → T.length = 0 ∧ b = 0) ∧ C.length ≤ a ∧ a ≤ maxLen ∧ T.length ≤ b ∧ b ≤ maxLen ∧ (Lit.int .i64 i).wf = true ∧ weight C + weight T ≤ n
section
variable {H : Type} {enc : TypeId × Value → H} {P : Program} {W : World} {n : Nat} {cs : List Value} {x : DataW H × List MemPlace} {ti tt ts tg th tr tR tc tk tw te : TypeId}
theorem str_cell (B : BaseT P ti tt ts) {v : Value} (h : DataW.trod enc P W 0 (fun _ => true) true n tt [v] = some x) : ∃ s : Sg.Str, v = .string ⟨s.toArray⟩ ∧ s.length ≤ Rows.uptoBulk x.1 := by
 obtain ⟨s, hz, hx, _⟩ := DataW.trod_string B.t h
 simp at hz
 subst hz hx
 refine ⟨s.data.toList, by simp, ?_⟩
 rw [Rows.uptoBulk]
 omega
theorem int_cell (B : BaseT P ti tt ts) {v : Value} (h : DataW.trod enc P W 0 (fun _ => true) true n ti [v] = some x) : ∃ z : Int, v = .int .i64 z ∧ (Lit.int .i64 z).wf = true := by
 obtain ⟨z, hz, _, wz⟩ := DataW.trod_int B.i h
 simp at hz
 exact ⟨z, hz, wz⟩
theorem sig_cells (B : BaseT P ti tt ts) (hg : Three P tg ti ts ts 1 2) (hG : P.cellsOf tg = 3) (h : DataW.trod enc P W 0 (fun _ => true) true n tg cs = some x) :
 ∃ (i : Int) (A B : Option Addr) (C T : List Sg.Str) (a b : Nat), cs = [.int .i64 i, .slice A C.length a, .slice B T.length b] ∧ SigIn W i A B C T a b (Rows.uptoBulk x.1) := by
 obtain ⟨y0, y1, y2, m, hx, hl, h0, h1, h2⟩ := three_cells hg h
 rw [hG] at hl
 rw [B.ci] at h0
 rw [B.cs] at h1 h2
 match cs, hl with
 | [c0, c1, c2], _ =>
   obtain ⟨i, rfl, wz⟩ := int_cell B h0
   obtain ⟨A, C, a, rfl, hR, hn, hl, hm, _, hd⟩ := strs_of B.s B.t B.ct h1
   obtain ⟨A', T, b, rfl, hR2, hn2, hl2, hm2, _, hd2⟩ := strs_of B.s B.t B.ct h2
   have := bulk_slice hd
   have := bulk_slice hd2
   refine ⟨i, A, A', C, T, a, b, rfl, hR, hR2, hn, hn2, hl, hm, hl2, hm2, wz, ?_⟩
   rw [hx]
   simp only [Rows.uptoBulk, Rows.uptoBulkAll, weight]
   omega
theorem head_cells (B : BaseT P ti tt ts) (hh : Three P th tt ti tt 1 2) (hH : P.cellsOf th = 3) (h : DataW.trod enc P W 0 (fun _ => true) true n th cs = some x) :
 ∃ (o : Sg.Str) (z : Int) (r : Sg.Str), cs = [.string ⟨o.toArray⟩, .int .i64 z, .string ⟨r.toArray⟩] ∧ o.length + r.length ≤ Rows.uptoBulk x.1 := by
 obtain ⟨y0, y1, y2, m, hx, hl, h0, h1, h2⟩ := three_cells hh h
 rw [hH] at hl
 rw [B.ct] at h0 h2
 rw [B.ci] at h1
 match cs, hl with
 | [c0, c1, c2], _ =>
   obtain ⟨o, rfl, ho⟩ := str_cell B h0
   obtain ⟨z, rfl, wz⟩ := int_cell B h1
   obtain ⟨r, rfl, hr⟩ := str_cell B h2
   refine ⟨o, z, r, rfl, ?_⟩
   rw [hx]
   simp only [Rows.uptoBulk, Rows.uptoBulkAll]
   omega
theorem key_cells (B : BaseT P ti tt ts) (hh : Three P tk tt ti ti 1 2) (hH : P.cellsOf tk = 3) (h : DataW.trod enc P W 0 (fun _ => true) true n tk cs = some x) :
 ∃ (s : Sg.Str) (a b : Int), cs = [.string ⟨s.toArray⟩, .int .i64 a, .int .i64 b] ∧ s.length ≤ Rows.uptoBulk x.1 := by
 obtain ⟨y0, y1, y2, m, hx, hl, h0, h1, h2⟩ := three_cells hh h
 rw [hH] at hl
 rw [B.ct] at h0
 rw [B.ci] at h1 h2
 match cs, hl with
 | [c0, c1, c2], _ =>
   obtain ⟨s, rfl, ho⟩ := str_cell B h0
   obtain ⟨a, rfl, _⟩ := int_cell B h1
   obtain ⟨b, rfl, _⟩ := int_cell B h2
   refine ⟨s, a, b, rfl, ?_⟩
   rw [hx]
   simp only [Rows.uptoBulk, Rows.uptoBulkAll]
   omega
def RowIn (W : World) (n : Nat) (x : SgRow) : Prop := SigIn W x.i x.A x.B x.C x.T x.a x.b n
theorem row_cells (B : BaseT P ti tt ts) (hg : Three P tg ti ts ts 1 2) (hG : P.cellsOf tg = 3) (hr : Two P tr tt tg 1) (hR : P.cellsOf tr = 4) (h : DataW.trod enc P W 0 (fun _ => true) true n tr cs = some x) :
 ∃ y : SgRow, cs = rowC y ∧ RowIn W (Rows.uptoBulk x.1) y := by
 obtain ⟨y0, y1, m, hx, hl, h0, h1⟩ := two_cells hr h
 rw [hR] at hl
 rw [B.ct] at h0
 rw [hG] at h1
 match cs, hl with
 | [c0, c1, c2, c3], _ =>
   obtain ⟨k, rfl, ho⟩ := str_cell B h0
   obtain ⟨i, A, B', C, T, a, b, e, g1, g2, g3, g4, g5, g6, g7, g8, g9, g10⟩ := sig_cells B hg hG h1
   simp at e
   obtain ⟨rfl, rfl, rfl⟩ := e
   refine ⟨⟨k, i, A, C, a, B', T, b⟩, rfl, g1, g2, g3, g4, g5, g6, g7, g8, g9, Nat.le_trans g10 ?_⟩
   rw [hx]
   simp only [Rows.uptoBulk, Rows.uptoBulkAll]
   omega
theorem rows_cells (B : BaseT P ti tt ts) (hg : Three P tg ti ts ts 1 2) (hG : P.cellsOf tg = 3) (hr : Two P tr tt tg 1) (hR : P.cellsOf tr = 4) (hs : P.underlying tR = some (.slice tr)) {v : Value} (h : DataW.trod enc P W 0 (fun _ => true) true n tR [v] = some x) :
 ∃ (X : Option Addr) (L : List SgRow) (c : Nat), v = .slice X L.length c ∧ Rd W X (L.flatMap rowC) ∧ (∀ y ∈ L, RowIn W (Rows.uptoBulk x.1) y) ∧ L.length ≤ c ∧ c ≤ maxLen ∧ (X = none → L.length = 0 ∧ c = 0) := by
 rcases DataW.trod_slice hs h with ⟨hcs, hx⟩ | ⟨a, len, cap, elems, rest, m, _, hcs, hx, _, hl, hm, hlen, hel, _⟩
 ·simp at hcs
  subst hcs
  exact ⟨none, [], 0, rfl, .inl rfl, fun _ hy => absurd hy (List.not_mem_nil), Nat.le_refl _, by simp [maxLen], fun _ => ⟨rfl, rfl⟩⟩
 ·simp at hcs
  subst hcs
  have each : ∀ i, i < len → ∃ q : SgRow, (∀ j, j < 4 → W.cell? ((a.add (i * 4)).add j) = (rowC q)[j]?) ∧ RowIn W (Rows.uptoBulk x.1) q := by
   intro i hi
   have h1 := hel i hi
   rw [List.getElem?_eq_getElem (by omega), Option.bind_eq_some_iff, hR] at h1
   obtain ⟨cs, hcs, ht⟩ := h1
   have hc := (World.cells?_some hcs).2.2
   obtain ⟨q, rfl, g1, g2, g3, g4, g5, g6, g7, g8, g9, g10⟩ := row_cells B hg hG hr hR ht
   refine ⟨q, fun j hj => ?_, g1, g2, g3, g4, g5, g6, g7, g8, g9, Nat.le_trans g10 ?_⟩
   ·have hj' : j < (rowC q).length := hj
    rw [List.getElem?_eq_getElem hj']
    first
     | exact hc j hj
     | simpa using hc j hj
     | (rw [hc j hj]; simp)
   ·rw [hx]
    have := bulk_mem (List.mem_map.2 ⟨_, List.getElem_mem (by omega : i < elems.length), rfl⟩ : (elems[i]'(by omega)).1 ∈ elems.map (·.1))
    rw [Rows.uptoBulk]
    omega
  obtain ⟨f, hfn⟩ : ∃ f : Nat → SgRow, ∀ i, i < len → (∀ j, j < 4 → W.cell? ((a.add (i * 4)).add j) = (rowC (f i))[j]?) ∧ RowIn W (Rows.uptoBulk x.1) (f i) :=
   ⟨fun i => if hi : i < len then (each i hi).choose else ⟨[], 0, none, [], 0, none, [], 0⟩, fun i hi => by simp only [hi, dif_pos]; exact (each i hi).choose_spec⟩
  refine ⟨some a, (List.range len).map f, cap, by simp, ?_, ?_, by simpa using hl, hm, (fun h => by cases h)⟩
  ·by_cases hz : len = 0
   ·left; subst hz; rfl
   ·obtain ⟨b, off, spot⟩ := a
    have hc0 := (hfn 0 (by omega)).1 0 (by omega)
    have hspot : spot = none := by
     have e : (rowC (f 0))[0]? = some (.string ⟨(f 0).key.toArray⟩) := rfl
     rw [e] at hc0
     simpa [Addr.add] using World.cell?_spot hc0
    subst hspot
    right
    refine ⟨b, off, rfl, fun j hj => ?_⟩
    have hln := flat_len rowC 4 (fun _ => rfl) ((List.range len).map f)
    have hj0 := hj
    rw [hln, List.length_map, List.length_range] at hj0
    obtain ⟨k, i, hi, rfl⟩ : ∃ k i, i < 4 ∧ j = k * 4 + i := ⟨j / 4, j % 4, Nat.mod_lt _ (by omega), by omega⟩
    have hk : k < len := by omega
    have g := flat_get rowC 4 (fun _ => rfl) ((List.range len).map f) k i (by simpa using hk) hi
    have hc := (hfn k hk).1 i hi
    rw [Addr.add_lit, Addr.add_lit] at hc
    rw [List.getElem?_eq_getElem hj] at g
    rw [← Nat.add_assoc, hc, g]
    simp
  ·intro q hq
   obtain ⟨i, hi, rfl⟩ := List.mem_map.1 hq
   exact (hfn i (List.mem_range.1 hi)).2
theorem RowIn.ok {W : World} {n : Nat} {y : SgRow} (h : RowIn W n y) : RowOk W y := ⟨h.1, h.2.1, h.2.2.2.2.1, h.2.2.2.2.2.1, h.2.2.2.2.2.2.1, h.2.2.2.2.2.2.2.1⟩
theorem RowIn.few {W : World} {n : Nat} {y : SgRow} (h : RowIn W n y) (hn : n ≤ 1048576) : RowFew y := ⟨h.2.2.1, h.2.2.2.1, Nat.le_trans h.2.2.2.2.2.2.2.2.2 (by omega)⟩
theorem RowIn.i63 {W : World} {n : Nat} {y : SgRow} (h : RowIn W n y) : y.i < 9223372036854775808 := by
 have := i64_bounds h.2.2.2.2.2.2.2.2.1
 omega
def CkV.In (W : World) (n : Nat) (x : CkV) : Prop := CkV.ok W x ∧ (n ≤ 1048576 → CkV.few x) ∧ CkV.i63 x
structure CkT (P : Program) (ti tt ts tg tr tR th tc : TypeId) : Prop where
 B : BaseT P ti tt ts
 g : Three P tg ti ts ts 1 2
 G : P.cellsOf tg = 3
 r : Two P tr tt tg 1
 R : P.cellsOf tr = 4
 s : P.underlying tR = some (.slice tr)
 S : P.cellsOf tR = 1
 h : Three P th tt ti tt 1 2
 H : P.cellsOf th = 3
 c : Three P tc th tg tR 3 6
 C : P.cellsOf tc = 7
theorem ck_cells (K : CkT P ti tt ts tg tr tR th tc) (h : DataW.trod enc P W 0 (fun _ => true) true n tc cs = some x) :
 ∃ y : CkV, cs = (ckA y).toList ∧ CkV.In W (Rows.uptoBulk x.1) y := by
 obtain ⟨y0, y1, y2, m, hx, hl, h0, h1, h2⟩ := three_cells K.c h
 rw [K.C] at hl
 rw [K.H] at h0
 rw [K.G] at h1
 rw [K.S] at h2
 match cs, hl with
 | [c0, c1, c2, c3, c4, c5, c6], _ =>
   obtain ⟨o, z, r, e, _⟩ := head_cells K.B K.h K.H h0
   simp at e
   obtain ⟨rfl, rfl, rfl⟩ := e
   obtain ⟨i, A, B', C, T, a, b, e, g1, g2, g3, g4, g5, g6, g7, g8, g9, g10⟩ := sig_cells K.B K.g K.G h1
   simp at e
   obtain ⟨rfl, rfl, rfl⟩ := e
   obtain ⟨X, L, c, e, l1, l2, l3, l4, l5⟩ := rows_cells K.B K.g K.G K.r K.R K.s h2
   subst e
   have b1 : Rows.uptoBulk y1.1 ≤ Rows.uptoBulk x.1 := by
    rw [hx]
    simp only [Rows.uptoBulk, Rows.uptoBulkAll]
    omega
   have b2 : Rows.uptoBulk y2.1 ≤ Rows.uptoBulk x.1 := by
    rw [hx]
    simp only [Rows.uptoBulk, Rows.uptoBulkAll]
    omega
   refine ⟨⟨o, z, r, i, A, C, a, B', T, b, X, L, c⟩, rfl, ⟨g1, g2, g5, g6, g7, g8, ⟨l1, fun y hy => (l2 y hy).ok⟩, l3, l4⟩, fun hn => ⟨fun y hy => (l2 y hy).few (Nat.le_trans b2 hn), g3, g4, ?_⟩, ?_, fun y hy => (l2 y hy).i63⟩
   ·exact Nat.le_trans g10 (by omega)
   ·have := i64_bounds g9
    show i < 9223372036854775808
    omega
theorem open_ck (K : CkT P ti tt ts tg tr tR th tc) {base : Nat} {v : Value} {d : DataW H} {p : List MemPlace} (hv : Value.okWide P W .any base tc v) (h : DataW.Trod enc P W 0 (fun _ => true) true tc v d p) :
 ∃ y : CkV, v = .agg (ckA y) ∧ CkV.In W (Rows.uptoBulk d) y := by
 have hu : ∃ fs, P.underlying tc = some (.struct fs) := by
  obtain ⟨f0, f1, f2, hu, _⟩ := K.c
  exact ⟨_, hu⟩
 obtain ⟨fs, hu⟩ := hu
 obtain ⟨cs, rfl, hsz⟩ := okWide_struct hu hv
 obtain ⟨fuel, hf⟩ := h
 obtain ⟨y, hy, hin⟩ := ck_cells K hf
 refine ⟨y, ?_, hin⟩
 rw [Value.cells] at hy
 rw [← Array.toList_inj.1 hy]
theorem open_wit (B : BaseT P ti tt ts) (hk : Three P tk tt ti ti 1 2) (hK : P.cellsOf tk = 3) (hh : Three P th tt ti tt 1 2) (hH : P.cellsOf th = 3) (hw : Four P tw tt tt tk th 1 2 5) (hW : P.cellsOf tw = 8) {base : Nat} {v : Value} {d : DataW H} {p : List MemPlace} (hv : Value.okWide P W .any base tw v) (h : DataW.Trod enc P W 0 (fun _ => true) true tw v d p) :
 ∃ y : Wit, v = .agg (witA y) ∧ y.o.length + y.key.length + y.seed.length + y.ho.length + y.r.length ≤ Rows.uptoBulk d := by
 have hu : ∃ fs, P.underlying tw = some (.struct fs) := by
  obtain ⟨f0, f1, f2, f3, hu, _⟩ := hw
  exact ⟨_, hu⟩
 obtain ⟨fs, hu⟩ := hu
 obtain ⟨cs, rfl, hsz⟩ := okWide_struct hu hv
 obtain ⟨fuel, hf⟩ := h
 obtain ⟨y0, y1, y2, y3, m, hx, hl, h0, h1, h2, h3⟩ := four_cells hw hf
 rw [Value.cells] at hl h0 h1 h2 h3
 rw [hW] at hl
 rw [B.ct] at h0 h1
 rw [hK] at h2
 rw [hH] at h3
 obtain ⟨cs⟩ := cs
 simp only at hl h0 h1 h2 h3
 match cs, hl with
 | [c0, c1, c2, c3, c4, c5, c6, c7], _ =>
   obtain ⟨o, rfl, ho⟩ := str_cell B h0
   obtain ⟨key, rfl, hkey⟩ := str_cell B h1
   obtain ⟨s, a, b, e, hse⟩ := key_cells B hk hK h2
   simp at e
   obtain ⟨rfl, rfl, rfl⟩ := e
   obtain ⟨q, z, r, e, hq⟩ := head_cells B hh hH h3
   simp at e
   obtain ⟨rfl, rfl, rfl⟩ := e
   refine ⟨⟨o, key, s, a, b, q, z, r⟩, rfl, ?_⟩
   simp only at hx
   rw [hx]
   simp only [Rows.uptoBulk, Rows.uptoBulkAll]
   omega
end
end Go.Proofs.YtjjpdnpbhdcpbaaGreat
