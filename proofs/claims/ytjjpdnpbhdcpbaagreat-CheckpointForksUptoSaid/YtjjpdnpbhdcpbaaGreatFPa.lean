/- Lemmas and contracts on what the walks need, several small texts in one. Conditions: as each theorem states. -/
import Derived.Test.YtjjpdnpbhdcpbaaGreatQBase
import Derived.WalkKit
import Derived.WalkSpells
import Derived.WalkLawsBesides
import Derived.Lib.Hide
import Derived.RegionTactic
import Derived.Deep.Draws
import Derived.Deep.QuietTactic
import Derived.BigQuiet
import Derived.Deep.LoopGhost
import Derived.Deep.DeepFit
import Derived.Deep.DeepCutAuto
import Derived.Maps.AppendAt
import Derived.Deep.RegionHeld3
import Derived.Deep.MidRow
import Derived.Deep.AppendLies
import Derived.Test.YtjjpdnpbhdcpbaaGreatProg
import Derived.Test.YtjjpdnpbhdcpbaaGreatQMkB
import Derived.Test.YtjjpdnpbhdcpbaaGreatQMkA
import Derived.Test.YtjjpdnpbhdcpbaaGreatLayJ
import Derived.Test.YtjjpdnpbhdcpbaaGreatQShaA
import Derived.Laws.BitsAllLaws
import Derived.BigRegion
import Derived.Test.YtjjpdnpbhdcpbaaGreatLayC
import Derived.Test.YtjjpdnpbhdcpbaaGreatLay
import Derived.Test.YtjjpdnpbhdcpbaaGreatQShaB
import Derived.Laws.CopyRow
import Derived.Laws.IdiomStrings
import Derived.Lib.Bytealg
import Derived.Laws.MakeOwn
import Derived.Test.YtjjpdnpbhdcpbaaGreatLayL
import Derived.StillTailTactics
import Derived.Test.YtjjpdnpbhdcpbaaGreatRows
import Derived.ProofKit
import Derived.OpenShut
import Derived.JoinedCond
import Derived.ShutString
import Derived.ChangeOld
import Derived.Test.YtjjpdnpbhdcpbaaGreatQPe
import Derived.Test.YtjjpdnpbhdcpbaaGreatQCkO
import Derived.Test.YtjjpdnpbhdcpbaaGreatQPd
import Derived.Test.YtjjpdnpbhdcpbaaGreatQCkL
import Derived.Test.YtjjpdnpbhdcpbaaGreatQCkK
import Derived.Test.YtjjpdnpbhdcpbaaGreatQCkJ
import Derived.Test.YtjjpdnpbhdcpbaaGreatQCkI
import Derived.Test.YtjjpdnpbhdcpbaaGreatQCkH
import Derived.Test.YtjjpdnpbhdcpbaaGreatQCkF
import Derived.Test.YtjjpdnpbhdcpbaaGreatQCkE
import Derived.Test.YtjjpdnpbhdcpbaaGreatQPa
import Derived.Test.YtjjpdnpbhdcpbaaGreatQCkC
import Derived.Test.YtjjpdnpbhdcpbaaGreatQPc
import Derived.Test.YtjjpdnpbhdcpbaaGreatQPb
import Derived.Test.YtjjpdnpbhdcpbaaGreatQSgJ
import Derived.Test.YtjjpdnpbhdcpbaaGreatQSgI
import Derived.Test.YtjjpdnpbhdcpbaaGreatQSgH
import Derived.Test.YtjjpdnpbhdcpbaaGreatQSgG
import Derived.Test.YtjjpdnpbhdcpbaaGreatQSgF
import Derived.Test.YtjjpdnpbhdcpbaaGreatQCdA
import Derived.Lib.Builder
import Derived.Lib.UnsafeStr
import Derived.Lib.AppendStr
import Derived.Lib.FrozenHead
import Derived.Test.YtjjpdnpbhdcpbaaGreatLayR
import Derived.Lib.OthersKept
import Derived.Test.YtjjpdnpbhdcpbaaGreatQSgD
import Derived.RangeFuncNested
import Derived.RangeFuncBound
import Derived.RangeFuncCalls
import Derived.RangeFuncLeaves
import Derived.Shelf.Abstract
import Derived.Shelf.RegionOpen
import Derived.OwnWalkIn
import Derived.TacticsInMore
import Derived.LoopNIn
import Derived.LoopIn
import Derived.Lib.FrozenHead2
import Derived.OrdersIn
import Derived.RangeFuncFrom
import Derived.Laws.ResultCell
import Derived.Test.YtjjpdnpbhdcpbaaGreatQCdB
import Derived.Laws.DeepNot64
import Derived.Test.YtjjpdnpbhdcpbaaGreatQSgL
import Derived.Deep.Strs
import Derived.Maps.OwnSet
import Derived.Deep.RegionLaw
namespace Go.Proofs.YtjjpdnpbhdcpbaaGreat
set_option linter.unusedVariables false
open Go.RowKit
end Go.Proofs.YtjjpdnpbhdcpbaaGreat
namespace Go.Proofs.YtjjpdnpbhdcpbaaGreat
set_option linter.unusedVariables false
open Go.RowKit
end Go.Proofs.YtjjpdnpbhdcpbaaGreat
namespace Go.Proofs.YtjjpdnpbhdcpbaaGreat
set_option linter.unusedVariables false
end Go.Proofs.YtjjpdnpbhdcpbaaGreat
namespace Go.Proofs.YtjjpdnpbhdcpbaaGreat
set_option linter.unusedVariables false
open Go.RowKit
end Go.Proofs.YtjjpdnpbhdcpbaaGreat
namespace Go.Proofs.YtjjpdnpbhdcpbaaGreat
set_option linter.unusedVariables false
open Go.RowKit
end Go.Proofs.YtjjpdnpbhdcpbaaGreat
namespace Go.Proofs.YtjjpdnpbhdcpbaaGreat
set_option linter.unusedVariables false
open Go.RowKit
end Go.Proofs.YtjjpdnpbhdcpbaaGreat
namespace Go.Proofs.YtjjpdnpbhdcpbaaGreat
set_option linter.unusedVariables false
open Go.RowKit
theorem weight_take (L : List (List UInt8)) (k : Nat) (h : k < L.length) : ((L.take (k + 1)).map List.length).sum = ((L.take k).map List.length).sum + L[k].length := by
 rw [List.take_succ_eq_append_getElem h, List.map_append, List.sum_append]
 simp only [List.map_cons, List.map_nil, List.sum_cons, List.sum_nil, Nat.add_zero]
theorem weight_take_le (L : List (List UInt8)) (k : Nat) : ((L.take k).map List.length).sum ≤ (L.map List.length).sum := by
 have : (L.map List.length).sum = ((L.take k).map List.length).sum + ((L.drop k).map List.length).sum := by
  rw [← List.sum_append, ← List.map_append, List.take_append_drop]
 omega
end Go.Proofs.YtjjpdnpbhdcpbaaGreat
namespace Go.Proofs.YtjjpdnpbhdcpbaaGreat
set_option linter.unusedVariables false
open Go.RowKit
end Go.Proofs.YtjjpdnpbhdcpbaaGreat
namespace Go.Proofs.YtjjpdnpbhdcpbaaGreat
set_option linter.unusedVariables false
open Go.RowKit
end Go.Proofs.YtjjpdnpbhdcpbaaGreat
namespace Go.Proofs.YtjjpdnpbhdcpbaaGreat
set_option linter.unusedVariables false
open Go.RowKit
end Go.Proofs.YtjjpdnpbhdcpbaaGreat
namespace Go.Proofs.YtjjpdnpbhdcpbaaGreat
set_option linter.unusedVariables false
open Go.RowKit
end Go.Proofs.YtjjpdnpbhdcpbaaGreat
namespace Go.Proofs.YtjjpdnpbhdcpbaaGreat
set_option linter.unusedVariables false
open Go.RowKit
end Go.Proofs.YtjjpdnpbhdcpbaaGreat
namespace Go.Proofs.YtjjpdnpbhdcpbaaGreat
set_option linter.unusedVariables false
open Go.RowKit
end Go.Proofs.YtjjpdnpbhdcpbaaGreat
namespace Go.Proofs.YtjjpdnpbhdcpbaaGreat
set_option linter.unusedVariables false
open Go.RowKit
end Go.Proofs.YtjjpdnpbhdcpbaaGreat
namespace Go.Proofs.YtjjpdnpbhdcpbaaGreat
set_option linter.unusedVariables false
open Go.RowKit
end Go.Proofs.YtjjpdnpbhdcpbaaGreat
namespace Go.Proofs.YtjjpdnpbhdcpbaaGreat
set_option linter.unusedVariables false
open Go.RowKit
end Go.Proofs.YtjjpdnpbhdcpbaaGreat
namespace Go.Proofs.YtjjpdnpbhdcpbaaGreat
set_option linter.unusedVariables false
open Go.RowKit
def fewB (L : List Mk.Str) : Bool := decide (L.length ≤ 70) && decide ((L.map List.length).sum ≤ 20000)
set_option maxRecDepth 20000 in
set_option maxHeartbeats 1000000 in
theorem mfew_spec (A : Option Addr) (L : List Mk.Str) (c : Nat) (w : World) (hR : Rd w A (strs L)) (hb : weight L ≤ 9223372036854775807) :
 Calls Tryz.prog 34 #[.slice A L.length c] w fun e w' => e = .returned (.bool (fewB L)) ∧ w = w' := by
 have hL63 : L.length ≤ 9223372036854775807 := by unfold weight at hb; omega
 go_enter Tryz.func34, Tryz.ntmps34
 go_wp2
 go_loop [3, 4] (fun n i => ∃ k : Nat, k ≤ L.length ∧ i = .int .i64 k ∧ n = .int .i64 ((((L.take k).map List.length).sum : Nat) : Int)) (fun _ i => L.length - (intOf i).toNat)
 case atStart => exact ⟨0, Nat.zero_le _, rfl, by simp⟩
 case round =>
  obtain ⟨k, hk, rfl, rfl⟩ := hrel
  by_cases hlt : k < L.length
  ·obtain ⟨b, off, rfl, hc⟩ := hR.str hlt
   have ht := weight_take L k hlt
   have hle := weight_take_le L (k + 1)
   have hb1 : ((L.take k).map List.length).sum + L[k].length ≤ 9223372036854775807 := by unfold weight at hb; omega
   obtain ⟨m, hm⟩ : ∃ m, ((L.take k).map List.length).sum = m := ⟨_, rfl⟩
   rw [hm] at hb1 ht
   rw [hm]
   have HT := Lib.hid ht; have HM := Lib.hid hm
   clear ht hm hle hb
   go_wp2
   go_round
   case rel => exact ⟨k + 1, by omega, by go_num, by rw [HT.out]; go_num⟩
   case measure => simp [intOf]; omega
  ·obtain rfl : k = L.length := by omega
   rw [List.take_length]
   obtain ⟨m, hm⟩ : ∃ m, (L.map List.length).sum = m := ⟨_, rfl⟩
   rw [hm]
   have HM := Lib.hid hm
   have hf : fewB L = (decide (L.length ≤ 70) && decide (m ≤ 20000)) := by unfold fewB; rw [hm]
   have HR := Lib.hid hR
   have HF := Lib.hid hf
   clear hm hf hb hR
   have hlt2 : decide ((L.length : Int) < (L.length : Int)) = false := by simp
   have g2 : decide ((m : Int) ≤ 20000) = decide (m ≤ 20000) := decide_eq_decide.2 (by omega)
   have G2 := Lib.hid g2
   clear g2
   by_cases h7 : L.length ≤ 70
   ·have g1 : decide ((L.length : Int) ≤ 70) = true := by simp; omega
    have g3 : decide (L.length ≤ 70) = true := by simp; omega
    go_wp2
    go_ret
    exact ⟨by rw [HF.out, g3, ← G2.out]; rfl, rfl⟩
   ·have g1 : decide ((L.length : Int) ≤ 70) = false := by simp; omega
    have g3 : decide (L.length ≤ 70) = false := by simp; omega
    go_wp2
    go_ret
    exact ⟨by rw [HF.out, g3]; rfl, rfl⟩
end Go.Proofs.YtjjpdnpbhdcpbaaGreat
namespace Go.Proofs.YtjjpdnpbhdcpbaaGreat
set_option linter.unusedVariables false
open Go.RowKit
theorem tmod_nat (a n : Nat) : (a : Int).tmod (n : Int) = ((a % n : Nat) : Int) := by rw [Int.tmod_eq_emod_of_nonneg (by omega)]; rfl
end Go.Proofs.YtjjpdnpbhdcpbaaGreat
namespace Go.Proofs.YtjjpdnpbhdcpbaaGreat
set_option linter.unusedVariables false
open Go.ChangeShapes hiding strs
open Go.WideShapes Go.ChangeAt Go.RowKit
theorem own_knob : ownKnob Tryz.prog.godebug = none := by kernel_rfl
theorem laid_out : laidOutB Tryz.prog = true := by kernel_rfl
theorem below_trodAll {H : Type} {enc : TypeId × Value → H} {P : Program} (hl : laidOutB P = true) {W W' : World} (hb : Below W.heap.size W W') :
 ∀ {ts : List TypeId} {vs : List Value} {ds : List (DataW H)} {ps : List MemPlace}, (∀ t ∈ ts, P.readableRec t = true ∧ t < P.types.size) →
   DataW.TrodAll enc P W 0 (fun _ => true) true ts vs ds ps → DataW.TrodAll enc P W' 0 (fun b => decide (b < W.heap.size)) true ts vs ds ps
 | [], [], [], _, _, h => h
 | [], [], _ :: _, _, _, h => h.elim
 | [], _ :: _, _, _, _, h => h.elim
 | _ :: _, [], _, _, _, h => h.elim
 | _ :: _, _ :: _, [], _, _, h => h.elim
 | t :: ts, v :: vs, d :: ds, ps, hr, h => by
   obtain ⟨p, q, h1, h2, rfl⟩ := h
   have hlt : ∀ x ∈ p, x.block < W.heap.size := by obtain ⟨m, hm⟩ := h1; exact DataW.trod_lt m _ _ _ hm
   exact ⟨p, q, Below.trod hl (hr t (by simp)).1 (hr t (by simp)).2 h1 hb hlt, below_trodAll hl hb (fun t' ht' => hr t' (by simp [ht'])) h2, rfl⟩
theorem law_post {H : Type} {enc : TypeId × Value → H} {P : Program} {f : Func} {s : ChangeSpec} {W W' : World} {args : Array Value} {ds gs : List (DataW H)} {before : List MemPlace} {tb : TypeId}
 (hl : laidOutB P = true) (hr' : (f.params.toList.all fun t => P.readableRec t && decide (t < P.types.size)) = true) (hrt : f.resultTypes = #[tb]) (htb : P.underlying tb = some .bool)
 (hv : s.vars = []) (hW : DataW.Whole enc P f.params.toList s.vars false W args.toList ds gs before)
 (h1 : (s.fn H (ds ++ gs)).results = [.lit (.bool true)]) (h2 : (s.fn H (ds ++ gs)).args = ds) (h3 : (s.fn H (ds ++ gs)).vars = []) (hb : Below W.heap.size W W') :
 s.post enc P f false true false false W args (.bool true) W' := by
 have hr : ∀ t ∈ f.params.toList, P.readableRec t = true ∧ t < P.types.size := fun t ht => by simpa using List.all_eq_true.1 hr' t ht
 have hW' := hW
 obtain ⟨p, q, hA, hV, rfl, hfz, hnd⟩ := hW
 refine ⟨ds, gs, _, [], p, [], hW', ?_, ?_, ?_, hb.frame _, fun h => by cases h⟩
 ·rw [hrt, h1]
  exact trodAll_cons_mk (shut_bool htb true) trodAll_mk0
 ·rw [h2]
  exact below_trodAll hl hb hr hA
 ·rw [h3, hv]
  rfl
theorem open_strs {H : Type} {enc : TypeId × Value → H} {P : Program} {t e : TypeId} {W : World} {base : Nat} {v : Value} {d : DataW H} {p : List MemPlace}
 (ht : P.underlying t = some (.slice e)) (he : P.underlying e = some .string) (hc : P.cellsOf e = 1) (hok : Value.okWide P W .any base t v)
 (h : DataW.Trod enc P W 0 (fun _ => true) true t v d p) :
 ∃ (A : Option Addr) (L : List (List UInt8)) (c : Nat), v = .slice A L.length c ∧ Rd W A (strs L) ∧ (A = none → L.length = 0 ∧ c = 0) ∧ L.length ≤ c ∧ c ≤ maxLen ∧ (∀ s ∈ L, s.length ≤ maxLen) ∧
   ((d = .nil ∧ L = []) ∨ ∃ rest, d = .slice (L.map fun s => .lit (.string s)) rest) := by
 obtain ⟨a0, len, cap, rfl⟩ := okWide_slice ht hok
 have hlt : ∀ x ∈ p, x.block < W.heap.size := by obtain ⟨m, hm⟩ := h; exact DataW.trod_lt m _ _ _ hm
 obtain ⟨fuel, hf⟩ := h
 rcases open_strings ht he hc hf with ⟨hcs, hx⟩ | ⟨a, len', cap', ss, hcs, _, hl, hm, hz, hx, hcell, hws⟩
 ·simp [Value.cells] at hcs
  obtain ⟨rfl, rfl, rfl⟩ := hcs
  injection hx with hx _
  exact ⟨none, [], 0, rfl, Rd.nil _ _, fun _ => ⟨rfl, rfl⟩, Nat.le_refl _, by simp [maxLen], by simp, .inl ⟨hx, rfl⟩⟩
 ·simp [Value.cells] at hcs
  obtain ⟨rfl, rfl, rfl⟩ := hcs
  simp at hz
  injection hx with hx1 hx2
  have hL : (ss.take len).map (fun s => s.data.toList) = (ss.take len).map (fun s => s.data.toList) := rfl
  have hlen : ((ss.take len).map fun s => s.data.toList).length = len := by simp; omega
  refine ⟨some a, (ss.take len).map fun s => s.data.toList, cap, by rw [hlen], ?_, (fun h => by cases h), by rw [hlen]; exact hl, hm, ?_, .inr ⟨ChangeShapes.strs (List.drop len ss), ?_⟩⟩
  ·by_cases h0 : len = 0
   ·left; subst h0; simp [strs]
   ·have hc0 := hcell 0 (by omega)
    obtain ⟨b, off, spot⟩ := a
    have hspot : spot = none := by simpa [Addr.add] using World.cell?_spot hc0
    subst hspot
    right
    refine ⟨b, off, rfl, fun j hj => ?_⟩
    have hj' : j < len := by rw [strs_length, hlen] at hj; exact hj
    have hjs : j < ss.length := by omega
    have := hcell j hjs
    rw [Addr.add_lit] at this
    rw [this]
    simp [strs, hjs]
  ·intro s hs
   simp only [List.mem_map] at hs
   obtain ⟨b, hb, rfl⟩ := hs
   have := hws b (List.mem_of_mem_take hb)
   show b.data.toList.length ≤ maxLen
   rw [Array.length_toList]
   exact this
  ·rw [hx1, List.map_map]
   rfl
theorem bulk_strs {H : Type} (L : List (List UInt8)) : Rows.uptoBulkAll (L.map fun s => (DataW.lit (.string s) : DataW H)) = L.length + (L.map List.length).sum := by
 induction L with
 | nil => simp [Rows.uptoBulkAll]
 | cons x L ih => simp only [List.map_cons, Rows.uptoBulkAll, Rows.uptoBulk, ih, List.length_cons, List.sum_cons]; omega
theorem bulk_slice {H : Type} {d : DataW H} {L : List (List UInt8)} (h : (d = .nil ∧ L = []) ∨ ∃ rest, d = .slice (L.map fun s => .lit (.string s)) rest) : L.length + (L.map List.length).sum ≤ Rows.uptoBulk d := by
 rcases h with ⟨rfl, rfl⟩ | ⟨rest, rfl⟩
 ·simp
 ·simp only [Rows.uptoBulk, bulk_strs]; omega
theorem bulk_all {H : Type} {l : List (DataW H)} (hk : Rows.uptoSmall H l = true) : Rows.uptoBulkAll l ≤ 1048576 := of_decide_eq_true hk
theorem u8_bounds {n : Int} (h : (Lit.int .u8 n).wf = true) : 0 ≤ n ∧ n ≤ 255 := by
 simpa [Lit.wf, IntKind.min, IntKind.max, IntKind.signed, IntKind.bits] using h
end Go.Proofs.YtjjpdnpbhdcpbaaGreat
namespace Go.Proofs.YtjjpdnpbhdcpbaaGreat
set_option linter.unusedVariables false
open Go.RowKit Go.Shelf
theorem cmp_some (L : List Sg.Str) (n : Nat) (ra : Sg.Str) (hL : Mk.AllD L) (hl : L.length ≤ 4096) (hn : n ≤ L.length) (hne : ¬ Mk.root (L.take n) = ra) : cmpR ra (n : Int) (Mk.root L) (L.length : Int) L = ((Mk.root (L.take n), (mCon L n).1), true) := by
 have hr := mRoot_ok hL hl
 have h32 := Mk.rootD hL
 unfold cmpR
 rw [if_pos rfl, if_pos (by omega), if_pos (by omega), hr, if_neg (fun e => by rw [e] at h32; cases h32), if_pos rfl, Int.toNat_natCast, mRoot_ok (Mk.AllD.take hL n) (by rw [List.length_take]; omega), if_neg hne]
end Go.Proofs.YtjjpdnpbhdcpbaaGreat
namespace Go.Proofs.YtjjpdnpbhdcpbaaGreat
set_option linter.unusedVariables false
open Go.RowKit Go.Shelf
attribute [local go_sem] Oper.semAt_some
set_option maxRecDepth 20000 in
set_option maxHeartbeats 1000000 in
theorem leaves_spec (A : Option Addr) (L : List Mk.Str) (c : Nat) (w : World) (hR : Rd w A (strs L)) (hb : weight L ≤ 1073741824) :
 Calls Tryz.prog 43 #[.slice A L.length c] w (SlR (L.map Mk.leaf) w) := by
 have hLl : L.length ≤ 1073741824 := by unfold weight at hb; omega
 have hel : ∀ k (h : k < L.length), L[k].length ≤ 1073741824 := fun k h => by
  have h1 := weight_take L k h
  have h2 := weight_take_le L (k + 1)
  unfold weight at hb
  omega
 have HR := Lib.hid (And.intro hR hel)
 clear hR hel hb
 go_enter Tryz.func43, Tryz.ntmps43
 go_wp2
 go_loopw [3, 8] (fun s i wr => ∃ k : Nat, k ≤ L.length ∧ i = .int .i64 k ∧ wr.ownsRow w.heap.size 9 1 s k (strs ((L.map Mk.leaf).take k)) ∧ Below w.heap.size w wr) (fun _ i _ => L.length - (intOf i).toNat)
 case atStart => exact ⟨0, Nat.zero_le _, rfl, ⟨rfl, .inl ⟨rfl, rfl⟩⟩, Below.refl _ _⟩
 case round =>
  obtain ⟨k, hk, rfl, own, hbe⟩ := hrel
  obtain ⟨A1, c1, rfl, hc1, hc2⟩ := own_form own
  have hsz := hbe.size
  by_cases hlt : k < L.length
  ·obtain ⟨b, off, hA, hcc⟩ := (HR.out.1.below hbe).str hlt
   subst hA
   have hst : strs ((L.map Mk.leaf).take (k + 1)) = strs ((L.map Mk.leaf).take k) ++ [.string ⟨(Mk.leaf L[k]).toArray⟩] := by
    rw [List.take_succ_eq_append_getElem (by simpa using hlt), strs_append, List.getElem_map]
    rfl
   have b1 : (k + 1) * 16 ≤ 140737488355328 := by omega
   have b2 : k + 1 ≤ maxLen := by unfold maxLen; omega
   have hkd : (k : Int) < (L.length : Int) := by omega
   have kl := fun W => rleaf_spec L[k] (HR.out.2 k hlt) W
   generalize Mk.leaf L[k] = y at kl hst
   generalize L[k] = x at kl hcc
   have HO := Lib.hid (And.intro own (And.intro hbe (And.intro hst hc1)))
   clear own hbe hst
   go_wp2_with fail
   refine (kl _).mono ?_
   rintro e w5 ⟨rfl, b5⟩
   have own5 := (Mod.of_below b5 (fun _ => False)).owns HO.out.1 (fun _ _ h => h)
   have hb5 := HO.out.2.1.trans (b5.mono hsz)
   have hs5 := hb5.size
   have H5 := Lib.hid own5
   clear own5
   go_wp2_with (at_builtin; go_must (refine append1 _ 27 9 (.string ⟨#[]⟩) 16 w.heap.size Tryz.underlying27 info_str rfl rfl _ _ rfl _ _ _ _ _ (H5.out.alloc _) rfl rfl (one_new _ _ _) rfl b1 b2 (by simp; omega) ?_); intro v' w1 hown1 hg1)
   go_roundw
   case rel =>
    refine ⟨k + 1, by omega, by go_num, ?_, (hb5.alloc hs5 _).grown hg1 (by simp; omega) (fun k hk => (H5.out.lt k hk).1)⟩
    rw [HO.out.2.2.1]
    exact hown1
   case measure => simp [intOf]; omega
  ·obtain rfl : k = L.length := by omega
   have hfull : (L.map Mk.leaf).take L.length = L.map Mk.leaf := by rw [List.take_of_length_le (by simp)]
   rw [hfull] at own
   have HO := Lib.hid (And.intro own hbe)
   clear own hbe
   go_wp2
   go_ret
   have hl : (L.map Mk.leaf).length = L.length := by simp
   refine ⟨A1, c1, by rw [hl]; rfl, by rw [hl]; exact hc1, hc2, ?_⟩
   rw [hl]
   exact (St.nil w).new_own HO.out.2 HO.out.1
end Go.Proofs.YtjjpdnpbhdcpbaaGreat
