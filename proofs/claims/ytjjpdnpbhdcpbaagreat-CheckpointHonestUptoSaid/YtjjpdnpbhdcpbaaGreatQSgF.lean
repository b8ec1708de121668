/-
  The digits of a message as they are handed to a loop, in the program: what the loop's body must keep is the blocks of ints. Conditions: at most 2^30 bytes.
-/
import Derived.Test.YtjjpdnpbhdcpbaaGreatQPa
import Derived.Test.YtjjpdnpbhdcpbaaGreatQSgD
import Derived.RangeFuncNested
import Derived.RangeFuncBound
import Derived.RangeFuncCalls
import Derived.RangeFuncLeaves
import Derived.Shelf.Abstract
import Derived.Shelf.RegionOpen
import Derived.OwnWalkIn
import Derived.TacticsInMore
import Derived.LoopNIn
import Derived.LoopIn
namespace Go.Proofs.YtjjpdnpbhdcpbaaGreat
set_option linter.unusedVariables false
open Go.RowKit Go.Shelf
attribute [local go_sem] Oper.semAt_some
def KeepsInts (W W' : World) : Prop := ∀ (k : Nat) (cs : Array Value) (fz : Nat × Nat), W.heap[k]? = some (Obj.cells cs 3 fz) → W'.heap[k]? = some (Obj.cells cs 3 fz)
theorem intsK_t {A B C : World} (h : KeepsInts A B) (k : KeepsInts B C) : KeepsInts A C := fun i cs fz hi => k i cs fz (h i cs fz hi)
theorem intsK_b {w : World} (W : World) (l : Nat) (o o' : Obj) (_ : w.heap.size ≤ l) (h : W.heap[l]? = some o) (ho : o.isCells = false) (_ : o.isWalk = false) : KeepsInts W (W.putObj l o') := fun i cs fz hi => by
 by_cases e : i = l
 ·subst e
  rw [h] at hi
  injection hi with hi
  subst hi
  simp [Obj.isCells] at ho
 ·exact (World.putObj_heap_other (fun e2 => e (by omega))).trans hi
def dfin (k : Nat) : List (Fin 67) := (List.finRange 67).take k
theorem dfin_succ (k : Nat) (h : k < 67) : dfin (k + 1) = dfin k ++ [⟨k, h⟩] := by
 unfold dfin
 rw [List.take_add_one, List.getElem?_eq_getElem (by rw [List.length_finRange]; exact h), List.getElem_finRange]
 rfl
theorem dfin_len (k : Nat) (h : k ≤ 67) : (dfin k).length = k := by
 unfold dfin
 rw [List.length_take, List.length_finRange]
 omega
theorem dfin_map {β : Type} (f : Nat → β) : ∀ k, k ≤ 67 → (dfin k).map (fun c => f c.val) = (List.range k).map f
 | 0, _ => rfl
 | k + 1, h => by rw [dfin_succ k (by omega), List.map_append, dfin_map f k (by omega), List.range_succ, List.map_append]; rfl
def encP (d : List Nat) (c : Fin 67) : Array Value := #[.int .i64 (c.val : Int), .int .i64 ((d.getD c.val 0 : Nat) : Int)]
theorem nint_cell {w : World} {g : Nat} {d : List Nat} {cur : Array Value} (hh : w.heap[g]? = some (.cells cur 3 (0, 0))) (ht : cur.toList.take (d.length * 1) = nints d) (k : Nat) (hk : k < d.length) : w.cell? ⟨g, k, none⟩ = some (.int .i64 ((d.getD k 0 : Nat) : Int)) := by
 rw [cell_of_row w g k cur 3 (0, 0) hh]
 have h1 : (cur.toList.take (d.length * 1))[k]? = some (.int .i64 ((d.getD k 0 : Nat) : Int)) := by
  rw [ht]
  unfold nints
  rw [List.getElem?_map, List.getElem?_eq_getElem hk, List.getD_eq_getElem?_getD, List.getElem?_eq_getElem hk]
  rfl
 rw [List.getElem?_take] at h1
 rw [if_pos (by omega)] at h1
 simpa using h1
set_option maxRecDepth 100000 in
set_option maxHeartbeats 2000000 in
theorem digits_stops (n : Nat) (hn : 1 ≤ n) (msg : Sg.Str) (g : Nat) (w : World) (hg : w.cell? ⟨g, 0, none⟩ = some (.string ⟨msg.toArray⟩)) (hm : msg.length ≤ 1073741824) :
 SeqStopsK Fence.wide n Tryz.prog 147 #[.pointer (some ⟨g, 0, none⟩)] (encP (Sg.dgs msg)) KeepsInts (fun xs => xs = dfin 67) (fun _ => True) 67 w := fun l J Jx W hW hJ hJx hY h0 => by
 have hgW : W.cell? ⟨g, 0, none⟩ = some (.string ⟨msg.toArray⟩) := below_cell hW hg
 have kd := digits_spec msg W hm
 have hdl := Sg.dgs_len msg
 obtain ⟨d, hd⟩ : ∃ d, Sg.dgs msg = d := ⟨_, rfl⟩
 rw [hd] at kd hdl hY
 clear hd hg
 refine callsIn_of_wp Tryz.func147 rfl trivial ?_ rfl
 simp only [Tryz.ntmps147, List.size_toArray, List.length_cons, List.length_nil, Nat.reduceAdd, Nat.reduceSub, Array.replicate_succ, Array.replicate_zero, List.push_toArray, List.append_toArray, List.nil_append, List.cons_append]
 gi_wp2_with (refine ⟨trivial, ?_⟩; gi_at_call 148; refine (callsIn_wide.2 kd).mono ?_; rintro e w2 ⟨A, c, rfl, hc, hm2, t⟩)
 obtain ⟨r, rfl, hrl⟩ : ∃ r, A = some ⟨r, 0, none⟩ ∧ r < w2.heap.size := sl_some t.own (by decide)
 obtain ⟨cur, hcur, htk⟩ : ∃ cur, w2.heap[r]? = some (Obj.cells cur 3 (0, 0)) ∧ cur.toList.take (d.length * 1) = nints d := by
  rcases t.own.2 with ⟨e1, e2⟩ | ⟨g', cap, cur, e1, _, hh, _, _, _, ht⟩
  ·cases e2
  ·injection e1 with e1 _ _
   injection e1 with e1
   injection e1 with e1
   subst e1
   exact ⟨cur, hh, by rw [hdl]; exact ht⟩
 have hJ2 : J (dfin 0) w2 := hJ _ _ _ none h0 ⟨t.below.os, t.below.tape, t.below.output, t.below.size, fun k hk _ => t.below.block k hk⟩ (fun r e => by cases e)
 have HC := Lib.hid htk
 clear t kd htk h0
 gi_loopw [8] (fun i wr => ∃ k : Nat, k ≤ 67 ∧ i = .int .i64 k ∧ J (dfin k) wr ∧ wr.heap[r]? = some (Obj.cells cur 3 (0, 0))) (fun i _ => 67 - (intOf i).toNat)
 case atStart => exact ⟨0, by decide, rfl, hJ2, hcur⟩
 case round =>
  clear hJ2 hcur
  obtain ⟨k, hk, rfl, hJs, hcur⟩ := hrel
  by_cases hlt : k < 67
  ·obtain ⟨fn, tmps, assign, body, hy, hR⟩ := hY _ ⟨k, hlt⟩ wr hJs (by rw [dfin_len _ hk]; exact hlt)
   unfold encP at hy
   dsimp only at hy
   have hcx := nint_cell hcur HC.out k (by omega)
   have i0 : (0 : Int) ≤ (k : Int) := by omega
   have i1 : (k : Int) < 67 := by omega
   have hps := dfin_succ k hlt
   generalize d.getD k 0 = x at hy hcx hps hR
   have HP := Lib.hid (And.intro hps hcur)
   clear hps hcur
   gi_wp2
   refine hR.mono ?_
   rintro e W3 (⟨rfl, hJ3, hk3⟩ | ⟨rfl, hJx3⟩)
   ·have hc3 := hk3 r cur (0, 0) HP.out.2
    rw [← HP.out.1] at hJ3
    have H3 := Lib.hid (And.intro hJ3 hc3)
    clear hJ3 hc3 hk3
    gi_wp2
    go_roundw
    case rel => exact ⟨k + 1, by omega, by go_num, H3.out.1, H3.out.2⟩
    case measure => simp [intOf]; omega
   ·gi_wp2
    refine bodyPost_ret (results_none rfl _ _ _) rfl ?_
    exact ⟨⟨_, rfl⟩, .inr ⟨_, trivial, hJx3⟩⟩
  ·obtain rfl : k = 67 := by omega
   clear hcur
   gi_wp2
   go_end0
   exact ⟨⟨_, rfl⟩, .inl ⟨_, rfl, hJs⟩⟩
end Go.Proofs.YtjjpdnpbhdcpbaaGreat
