/- Lemmas and contracts on what the walks need, several small texts in one. Conditions: as each theorem states. -/
import Derived.Test.YtjjpdnpbhdcpbaaGreatQBase
import Derived.WalkKit
import Derived.WalkSpells
import Derived.WalkLawsBesides
import Derived.Lib.Hide
import Derived.RegionTactic
import Derived.Deep.Draws
import Derived.Deep.QuietTactic
import Derived.BigQuiet
import Derived.Deep.LoopGhost
import Derived.Deep.DeepFit
import Derived.Deep.DeepCutAuto
import Derived.Maps.AppendAt
import Derived.Deep.RegionHeld3
import Derived.Deep.MidRow
import Derived.Deep.AppendLies
import Derived.Test.YtjjpdnpbhdcpbaaGreatProg
import Derived.Test.YtjjpdnpbhdcpbaaGreatQCdA
import Derived.Lib.Builder
import Derived.Lib.UnsafeStr
import Derived.Lib.AppendStr
import Derived.Lib.FrozenHead
import Derived.Test.YtjjpdnpbhdcpbaaGreatQMkB
import Derived.Test.YtjjpdnpbhdcpbaaGreatQMkA
import Derived.Test.YtjjpdnpbhdcpbaaGreatLayJ
import Derived.Test.YtjjpdnpbhdcpbaaGreatQShaA
import Derived.Laws.BitsAllLaws
import Derived.BigRegion
import Derived.Test.YtjjpdnpbhdcpbaaGreatLayC
import Derived.Test.YtjjpdnpbhdcpbaaGreatLay
import Derived.Test.YtjjpdnpbhdcpbaaGreatQShaB
import Derived.Laws.CopyRow
import Derived.Laws.IdiomStrings
import Derived.Lib.Bytealg
import Derived.Laws.MakeOwn
import Derived.Test.YtjjpdnpbhdcpbaaGreatLayL
import Derived.StillTailTactics
import Derived.Test.YtjjpdnpbhdcpbaaGreatRows
import Derived.ProofKit
import Derived.OpenShut
import Derived.JoinedCond
import Derived.ShutString
import Derived.ChangeOld
import Derived.Deep.RegionLaw
import Derived.Lib.SmallJoins
namespace Go.Proofs.YtjjpdnpbhdcpbaaGreat
set_option linter.unusedVariables false
open Go.RowKit
end Go.Proofs.YtjjpdnpbhdcpbaaGreat
namespace Go.Proofs.YtjjpdnpbhdcpbaaGreat
set_option linter.unusedVariables false
open Go.RowKit
end Go.Proofs.YtjjpdnpbhdcpbaaGreat
namespace Go.Proofs.YtjjpdnpbhdcpbaaGreat
set_option linter.unusedVariables false
end Go.Proofs.YtjjpdnpbhdcpbaaGreat
namespace Go.Proofs.YtjjpdnpbhdcpbaaGreat
set_option linter.unusedVariables false
open Go.RowKit
end Go.Proofs.YtjjpdnpbhdcpbaaGreat
namespace Go.Proofs.YtjjpdnpbhdcpbaaGreat
set_option linter.unusedVariables false
open Go.RowKit
end Go.Proofs.YtjjpdnpbhdcpbaaGreat
namespace Go.Proofs.YtjjpdnpbhdcpbaaGreat
set_option linter.unusedVariables false
open Go.RowKit
end Go.Proofs.YtjjpdnpbhdcpbaaGreat
namespace Go.Proofs.YtjjpdnpbhdcpbaaGreat
set_option linter.unusedVariables false
open Go.RowKit
theorem weight_take (L : List (List UInt8)) (k : Nat) (h : k < L.length) : ((L.take (k + 1)).map List.length).sum = ((L.take k).map List.length).sum + L[k].length := by
 rw [List.take_succ_eq_append_getElem h, List.map_append, List.sum_append]
 simp only [List.map_cons, List.map_nil, List.sum_cons, List.sum_nil, Nat.add_zero]
theorem weight_take_le (L : List (List UInt8)) (k : Nat) : ((L.take k).map List.length).sum ≤ (L.map List.length).sum := by
 have : (L.map List.length).sum = ((L.take k).map List.length).sum + ((L.drop k).map List.length).sum := by
  rw [← List.sum_append, ← List.map_append, List.take_append_drop]
 omega
end Go.Proofs.YtjjpdnpbhdcpbaaGreat
namespace Go.Proofs.YtjjpdnpbhdcpbaaGreat
set_option linter.unusedVariables false
open Go.RowKit
theorem strs_one (L : List (List UInt8)) : ∀ u ∈ strs L, u.oneCell' = true := by
 intro u hu
 obtain ⟨s, _, rfl⟩ := List.mem_map.1 hu
 rfl
end Go.Proofs.YtjjpdnpbhdcpbaaGreat
namespace Go.Proofs.YtjjpdnpbhdcpbaaGreat
set_option linter.unusedVariables false
open Go.RowKit
end Go.Proofs.YtjjpdnpbhdcpbaaGreat
namespace Go.Proofs.YtjjpdnpbhdcpbaaGreat
set_option linter.unusedVariables false
namespace Cd
end Cd
end Go.Proofs.YtjjpdnpbhdcpbaaGreat
namespace Go.Proofs.YtjjpdnpbhdcpbaaGreat
set_option linter.unusedVariables false
open Go.RowKit
end Go.Proofs.YtjjpdnpbhdcpbaaGreat
namespace Go.Proofs.YtjjpdnpbhdcpbaaGreat
set_option linter.unusedVariables false
open Go.RowKit
end Go.Proofs.YtjjpdnpbhdcpbaaGreat
namespace Go.Proofs.YtjjpdnpbhdcpbaaGreat
set_option linter.unusedVariables false
open Go.RowKit
set_option maxHeartbeats 400000 in
theorem text_ref (s : List UInt8) (hs : s.length ≤ 1099511627776) (w : World) :
 Calls Tryz.prog 72 #[.string ⟨s.toArray⟩] w fun e w' => e = .returned (.string ⟨(Cd.text s).toArray⟩) ∧ Below w.heap.size w w' := by
 have hu := fun w => unsigned_ref s.length (by omega) w
 have hl := Cd.uns_len s.length
 go_enter Tryz.func72, Tryz.ntmps72
 go_wp2_with (go_at_call 125; go_must (refine (hu _).mono ?_); rintro e w' ⟨rfl, hb1⟩)
 go_ret
 exact ⟨ret_eq (by simp [bytes_append, Cd.text]), hb1⟩
end Go.Proofs.YtjjpdnpbhdcpbaaGreat
namespace Go.Proofs.YtjjpdnpbhdcpbaaGreat
set_option linter.unusedVariables false
open Go.RowKit
set_option maxHeartbeats 1000000 in
theorem texts_ref (A : Option Addr) (L : List (List UInt8)) (c : Nat) (w : World) (hR : Rd w A (strs L)) (hlen : (Cd.body L).length ≤ 1000000000000) (hL : L.length ≤ 1000000000000) :
 Calls Tryz.prog 123 #[.slice A L.length c] w fun e w' => e = .returned (.string ⟨(Cd.texts L).toArray⟩) ∧ Below w.heap.size w w' := by
 have hu := fun w => unsigned_ref L.length (by omega) w
 have hl := Cd.uns_len L.length
 go_enter Tryz.func123, Tryz.ntmps123
 go_wp2_with fail
 go_must (refine (hu _).mono ?_)
 rintro e w1 ⟨rfl, hb1⟩
 have hR1 := hR.below hb1
 clear hu hR
 go_wp2_with fail
 go_loopw [4, 3] (fun i v wr => ∃ k : Nat, k ≤ L.length ∧ i = .int .i64 k ∧ v = .string ⟨(Cd.uns L.length ++ Cd.body (L.take k)).toArray⟩ ∧ Below w1.heap.size w1 wr) (fun i _ _ => L.length - (intOf i).toNat)
 case atStart => exact ⟨0, Nat.zero_le _, rfl, by simp [Cd.body], Below.refl _ _⟩
 case round =>
  obtain ⟨k, hk, rfl, rfl, hbel⟩ := hrel
  by_cases hlt : k < L.length
  ·have hbt := body_take L k hlt
   have hle := body_take_le L (k + 1)
   rw [hbt] at hle
   simp only [List.length_append] at hle
   have htl := text_len L[k]
   obtain ⟨b0, off, rfl, hc⟩ : ∃ b0 off, A = some ⟨b0, off, none⟩ ∧ w1.cell? ⟨b0, off + k, none⟩ = some (.string ⟨L[k].toArray⟩) := by
    rcases hR1 with hR | ⟨b0, off, hA', hc⟩
    ·have := congrArg List.length hR; rw [strs_length, List.length_nil] at this; omega
    ·exact ⟨b0, off, hA', by have := hc k (by simpa [strs] using hlt); rwa [strs_get] at this⟩
   have hc' : wr.cell? ⟨b0, off + k, none⟩ = some (.string ⟨L[k].toArray⟩) := below_cell hbel hc
   have ht := fun w => text_ref L[k] (by omega) w
   have hsz := hbel.size
   have H1 := Lib.hid hbt; have H2 := Lib.hid htl
   clear hbt htl hc hR1
   have hsum : (Cd.body (List.take k L)).length ≤ 1000000000000 := by omega
   have hsum2 : (Cd.text L[k]).length ≤ 1000000000000 := by omega
   clear hle
   go_wp2_with (go_at_call 72; go_must (refine (ht _).mono ?_); rintro e w2 ⟨rfl, hb2⟩)
   go_roundw
   case rel => exact ⟨k + 1, by omega, by go_num, by rw [H1.out]; simp [bytes_append], hbel.trans (hb2.mono hsz)⟩
   case measure => simp [intOf]; omega
  ·obtain rfl : k = L.length := by omega
   go_wp2
   go_ret
   exact ⟨ret_eq (by simp [Cd.texts]), hb1.trans (hbel.mono hb1.size)⟩
end Go.Proofs.YtjjpdnpbhdcpbaaGreat
namespace Go.Proofs.YtjjpdnpbhdcpbaaGreat
set_option linter.unusedVariables false
namespace Cd
theorem readUns_inv {s : List UInt8} {at_ n next : Nat} (h : readUns s at_ = some (n, next)) : s.drop at_ = uns n ++ s.drop next ∧ next = at_ + (uns n).length ∧ n < 2 ^ 64 := by
 unfold readUns at h
 cases hd : dec (s.drop at_) with
 | none => simp [hd] at h
 | some p =>
   obtain ⟨m, c⟩ := p
   simp [hd] at h
   obtain ⟨rfl, rfl⟩ := h
   obtain ⟨h1, h2, h3, h4⟩ := dec_inv hd
   refine ⟨?_, by omega, h3⟩
   rw [← h1, ← List.drop_drop, List.take_append_drop]
theorem readUint_inv {s : List UInt8} {at_ n next : Nat} (h : readUint s at_ = some (n, next)) : s.drop at_ = uns n ++ s.drop next ∧ next = at_ + (uns n).length ∧ n < 2 ^ 63 := by
 unfold readUint at h
 cases hd : readUns s at_ with
 | none => simp [hd] at h
 | some p =>
   obtain ⟨m, c⟩ := p
   simp only [hd] at h
   split at h
   ·simp only [Option.some.injEq, Prod.mk.injEq] at h
    obtain ⟨rfl, rfl⟩ := h
    have := readUns_inv hd
    exact ⟨this.1, this.2.1, by assumption⟩
   ·simp at h
theorem readText_inv {s x : List UInt8} {at_ next : Nat} (h : readText s at_ = some (x, next)) : s.drop at_ = text x ++ s.drop next ∧ next = at_ + (text x).length := by
 unfold readText at h
 cases hd : readUint s at_ with
 | none => simp [hd] at h
 | some p =>
   obtain ⟨n, c⟩ := p
   simp only [hd] at h
   split at h
   ·rename_i hn
    simp only [Option.some.injEq, Prod.mk.injEq] at h
    obtain ⟨rfl, rfl⟩ := h
    obtain ⟨h1, h2, h3⟩ := readUint_inv hd
    have hl : ((s.drop c).take n).length = n := by simp; omega
    unfold text
    rw [hl]
    refine ⟨?_, by simp [hl]; omega⟩
    rw [h1, List.append_assoc, ← List.drop_drop, List.take_append_drop]
   ·simp at h
theorem readMany_inv {s : List UInt8} : ∀ {k at_ : Nat} {r : List (List UInt8)} {next : Nat}, readMany s k at_ = some (r, next) → s.drop at_ = body r ++ s.drop next ∧ next = at_ + (body r).length ∧ r.length = k
 | 0, at_, r, next, h => by
   simp [readMany] at h
   obtain ⟨rfl, rfl⟩ := h
   simp [body]
 | k + 1, at_, r, next, h => by
   simp only [readMany] at h
   cases hd : readText s at_ with
   | none => simp [hd] at h
   | some p =>
     obtain ⟨x, n1⟩ := p
     simp only [hd] at h
     cases hm : readMany s k n1 with
     | none => simp [hm] at h
     | some q =>
       obtain ⟨r1, e⟩ := q
       simp only [hm, Option.some.injEq, Prod.mk.injEq] at h
       obtain ⟨rfl, rfl⟩ := h
       obtain ⟨h1, h2⟩ := readText_inv hd
       obtain ⟨h3, h4, h5⟩ := readMany_inv hm
       rw [body_cons]
       refine ⟨by rw [h1, h3, List.append_assoc], by simp; omega, by simp; omega⟩
theorem readTexts_inv {s : List UInt8} {at_ next : Nat} {r : List (List UInt8)} (h : readTexts s at_ = some (r, next)) : s.drop at_ = texts r ++ s.drop next ∧ next = at_ + (texts r).length := by
 unfold readTexts at h
 cases hd : readUint s at_ with
 | none => simp [hd] at h
 | some p =>
   obtain ⟨n, c⟩ := p
   simp only [hd] at h
   split at h
   ·obtain ⟨h1, h2, h3⟩ := readUint_inv hd
    obtain ⟨h4, h5, h6⟩ := readMany_inv h
    unfold texts
    rw [h6]
    exact ⟨by rw [h1, h4, List.append_assoc], by simp; omega⟩
   ·simp at h
theorem readTexts_le {s : List UInt8} {at_ next : Nat} {r : List (List UInt8)} (h : readTexts s at_ = some (r, next)) (ha : at_ ≤ s.length) : next ≤ s.length := by
 unfold readTexts at h
 cases hd : readUint s at_ with
 | none => simp [hd] at h
 | some p =>
   simp only [hd] at h
   split at h
   ·exact (readMany_le h (readUint_le hd ha).2.1).2.1
   ·simp at h
end Cd
end Go.Proofs.YtjjpdnpbhdcpbaaGreat
namespace Go.Proofs.YtjjpdnpbhdcpbaaGreat
set_option linter.unusedVariables false
open Go.RowKit
end Go.Proofs.YtjjpdnpbhdcpbaaGreat
namespace Go.Proofs.YtjjpdnpbhdcpbaaGreat
set_option linter.unusedVariables false
open Go.RowKit
end Go.Proofs.YtjjpdnpbhdcpbaaGreat
namespace Go.Proofs.YtjjpdnpbhdcpbaaGreat
set_option linter.unusedVariables false
open Go.RowKit
end Go.Proofs.YtjjpdnpbhdcpbaaGreat
namespace Go.Proofs.YtjjpdnpbhdcpbaaGreat
set_option linter.unusedVariables false
open Go.RowKit
end Go.Proofs.YtjjpdnpbhdcpbaaGreat
namespace Go.Proofs.YtjjpdnpbhdcpbaaGreat
set_option linter.unusedVariables false
open Go.RowKit
end Go.Proofs.YtjjpdnpbhdcpbaaGreat
namespace Go.Proofs.YtjjpdnpbhdcpbaaGreat
set_option linter.unusedVariables false
open Go.RowKit
end Go.Proofs.YtjjpdnpbhdcpbaaGreat
namespace Go.Proofs.YtjjpdnpbhdcpbaaGreat
set_option linter.unusedVariables false
open Go.RowKit
end Go.Proofs.YtjjpdnpbhdcpbaaGreat
namespace Go.Proofs.YtjjpdnpbhdcpbaaGreat
set_option linter.unusedVariables false
open Go.RowKit
def fewB (L : List Mk.Str) : Bool := decide (L.length ≤ 70) && decide ((L.map List.length).sum ≤ 20000)
set_option maxRecDepth 20000 in
set_option maxHeartbeats 1000000 in
theorem mfew_spec (A : Option Addr) (L : List Mk.Str) (c : Nat) (w : World) (hR : Rd w A (strs L)) (hb : weight L ≤ 9223372036854775807) :
 Calls Tryz.prog 34 #[.slice A L.length c] w fun e w' => e = .returned (.bool (fewB L)) ∧ w = w' := by
 have hL63 : L.length ≤ 9223372036854775807 := by unfold weight at hb; omega
 go_enter Tryz.func34, Tryz.ntmps34
 go_wp2
 go_loop [3, 4] (fun n i => ∃ k : Nat, k ≤ L.length ∧ i = .int .i64 k ∧ n = .int .i64 ((((L.take k).map List.length).sum : Nat) : Int)) (fun _ i => L.length - (intOf i).toNat)
 case atStart => exact ⟨0, Nat.zero_le _, rfl, by simp⟩
 case round =>
  obtain ⟨k, hk, rfl, rfl⟩ := hrel
  by_cases hlt : k < L.length
  ·obtain ⟨b, off, rfl, hc⟩ := hR.str hlt
   have ht := weight_take L k hlt
   have hle := weight_take_le L (k + 1)
   have hb1 : ((L.take k).map List.length).sum + L[k].length ≤ 9223372036854775807 := by unfold weight at hb; omega
   obtain ⟨m, hm⟩ : ∃ m, ((L.take k).map List.length).sum = m := ⟨_, rfl⟩
   rw [hm] at hb1 ht
   rw [hm]
   have HT := Lib.hid ht; have HM := Lib.hid hm
   clear ht hm hle hb
   go_wp2
   go_round
   case rel => exact ⟨k + 1, by omega, by go_num, by rw [HT.out]; go_num⟩
   case measure => simp [intOf]; omega
  ·obtain rfl : k = L.length := by omega
   rw [List.take_length]
   obtain ⟨m, hm⟩ : ∃ m, (L.map List.length).sum = m := ⟨_, rfl⟩
   rw [hm]
   have HM := Lib.hid hm
   have hf : fewB L = (decide (L.length ≤ 70) && decide (m ≤ 20000)) := by unfold fewB; rw [hm]
   have HR := Lib.hid hR
   have HF := Lib.hid hf
   clear hm hf hb hR
   have hlt2 : decide ((L.length : Int) < (L.length : Int)) = false := by simp
   have g2 : decide ((m : Int) ≤ 20000) = decide (m ≤ 20000) := decide_eq_decide.2 (by omega)
   have G2 := Lib.hid g2
   clear g2
   by_cases h7 : L.length ≤ 70
   ·have g1 : decide ((L.length : Int) ≤ 70) = true := by simp; omega
    have g3 : decide (L.length ≤ 70) = true := by simp; omega
    go_wp2
    go_ret
    exact ⟨by rw [HF.out, g3, ← G2.out]; rfl, rfl⟩
   ·have g1 : decide ((L.length : Int) ≤ 70) = false := by simp; omega
    have g3 : decide (L.length ≤ 70) = false := by simp; omega
    go_wp2
    go_ret
    exact ⟨by rw [HF.out, g3]; rfl, rfl⟩
end Go.Proofs.YtjjpdnpbhdcpbaaGreat
namespace Go.Proofs.YtjjpdnpbhdcpbaaGreat
set_option linter.unusedVariables false
open Go.RowKit
end Go.Proofs.YtjjpdnpbhdcpbaaGreat
namespace Go.Proofs.YtjjpdnpbhdcpbaaGreat
set_option linter.unusedVariables false
open Go.ChangeShapes hiding strs
open Go.WideShapes Go.ChangeAt Go.RowKit
theorem own_knob : ownKnob Tryz.prog.godebug = none := by kernel_rfl
theorem laid_out : laidOutB Tryz.prog = true := by kernel_rfl
theorem below_trodAll {H : Type} {enc : TypeId × Value → H} {P : Program} (hl : laidOutB P = true) {W W' : World} (hb : Below W.heap.size W W') :
 ∀ {ts : List TypeId} {vs : List Value} {ds : List (DataW H)} {ps : List MemPlace}, (∀ t ∈ ts, P.readableRec t = true ∧ t < P.types.size) →
   DataW.TrodAll enc P W 0 (fun _ => true) true ts vs ds ps → DataW.TrodAll enc P W' 0 (fun b => decide (b < W.heap.size)) true ts vs ds ps
 | [], [], [], _, _, h => h
 | [], [], _ :: _, _, _, h => h.elim
 | [], _ :: _, _, _, _, h => h.elim
 | _ :: _, [], _, _, _, h => h.elim
 | _ :: _, _ :: _, [], _, _, h => h.elim
 | t :: ts, v :: vs, d :: ds, ps, hr, h => by
   obtain ⟨p, q, h1, h2, rfl⟩ := h
   have hlt : ∀ x ∈ p, x.block < W.heap.size := by obtain ⟨m, hm⟩ := h1; exact DataW.trod_lt m _ _ _ hm
   exact ⟨p, q, Below.trod hl (hr t (by simp)).1 (hr t (by simp)).2 h1 hb hlt, below_trodAll hl hb (fun t' ht' => hr t' (by simp [ht'])) h2, rfl⟩
theorem law_post {H : Type} {enc : TypeId × Value → H} {P : Program} {f : Func} {s : ChangeSpec} {W W' : World} {args : Array Value} {ds gs : List (DataW H)} {before : List MemPlace} {tb : TypeId}
 (hl : laidOutB P = true) (hr' : (f.params.toList.all fun t => P.readableRec t && decide (t < P.types.size)) = true) (hrt : f.resultTypes = #[tb]) (htb : P.underlying tb = some .bool)
 (hv : s.vars = []) (hW : DataW.Whole enc P f.params.toList s.vars false W args.toList ds gs before)
 (h1 : (s.fn H (ds ++ gs)).results = [.lit (.bool true)]) (h2 : (s.fn H (ds ++ gs)).args = ds) (h3 : (s.fn H (ds ++ gs)).vars = []) (hb : Below W.heap.size W W') :
 s.post enc P f false true false false W args (.bool true) W' := by
 have hr : ∀ t ∈ f.params.toList, P.readableRec t = true ∧ t < P.types.size := fun t ht => by simpa using List.all_eq_true.1 hr' t ht
 have hW' := hW
 obtain ⟨p, q, hA, hV, rfl, hfz, hnd⟩ := hW
 refine ⟨ds, gs, _, [], p, [], hW', ?_, ?_, ?_, hb.frame _, fun h => by cases h⟩
 ·rw [hrt, h1]
  exact trodAll_cons_mk (shut_bool htb true) trodAll_mk0
 ·rw [h2]
  exact below_trodAll hl hb hr hA
 ·rw [h3, hv]
  rfl
theorem bulk_strs {H : Type} (L : List (List UInt8)) : Rows.uptoBulkAll (L.map fun s => (DataW.lit (.string s) : DataW H)) = L.length + (L.map List.length).sum := by
 induction L with
 | nil => simp [Rows.uptoBulkAll]
 | cons x L ih => simp only [List.map_cons, Rows.uptoBulkAll, Rows.uptoBulk, ih, List.length_cons, List.sum_cons]; omega
theorem bulk_slice {H : Type} {d : DataW H} {L : List (List UInt8)} (h : (d = .nil ∧ L = []) ∨ ∃ rest, d = .slice (L.map fun s => .lit (.string s)) rest) : L.length + (L.map List.length).sum ≤ Rows.uptoBulk d := by
 rcases h with ⟨rfl, rfl⟩ | ⟨rest, rfl⟩
 ·simp
 ·simp only [Rows.uptoBulk, bulk_strs]; omega
theorem bulk_all {H : Type} {l : List (DataW H)} (hk : Rows.uptoSmall H l = true) : Rows.uptoBulkAll l ≤ 1048576 := of_decide_eq_true hk
theorem open_bytes {H : Type} {enc : TypeId × Value → H} {P : Program} {t : TypeId} {W : World} {base : Nat} {v : Value} {d : DataW H} {p : List MemPlace}
 (ht : P.underlying t = some .string) (hok : Value.okWide P W .any base t v) (h : DataW.Trod enc P W 0 (fun _ => true) true t v d p) :
 ∃ l : List UInt8, v = .string ⟨l.toArray⟩ ∧ d = .lit (.string l) ∧ l.length ≤ maxLen := by
 obtain ⟨s, rfl, rfl, rfl, hm⟩ := ChangeMaps.open_string ht hok h
 exact ⟨s.data.toList, by simp, rfl, by rw [Array.length_toList]; exact hm⟩
theorem i64_bounds {n : Int} (h : (Lit.int .i64 n).wf = true) : -9223372036854775808 ≤ n ∧ n ≤ 9223372036854775807 := by
 simpa [Lit.wf, IntKind.min, IntKind.max, IntKind.signed, IntKind.bits] using h
end Go.Proofs.YtjjpdnpbhdcpbaaGreat
namespace Go.Proofs.YtjjpdnpbhdcpbaaGreat
set_option linter.unusedVariables false
open Go.RowKit
section
variable {P : Program} (w : World) {ops : Array Oper} {rest : List Oper} {o : Oper} {a : Act} {K : Act → World → Prop} {Q : Exit → Act → World → Prop} {E : Prop}
theorem app_op (s x : Operand) (t : TypeId) (ho : o.op = .call { callee := .builtin .append, args := #[s, x], argTypes := #[t, t] })
 (e : TypeId) (z : Value) (size bytes base : Nat) (ht : P.underlying t = some (.slice e)) (hi : (P.info? e).map (fun i => (i.zero, i.size, i.bytes)) = some (some z, size, bytes)) (hzs : z.cells.size = size) (hsz : 0 < size)
 (v : Value) (n : Nat) (xs : List Value) (A : Option Addr) (m c : Nat) (news : List Value) (hs : a.eval s = v) (hx : a.eval x = .slice A m c) (hown : w.ownsRow base e size v n xs)
 (hnil : A = none → m = 0 ∧ c = 0) (hR : Rd w A news) (hm : news.length = m * size) (hu : ∀ u ∈ news, u.oneCell' = true) (hn : (n + m) * bytes ≤ 140737488355328) (h63 : n + m ≤ maxLen) (hb : base ≤ w.heap.size)
 (h : ∀ v' w', w'.ownsRow base e size v' (n + m) (xs ++ news) → w.grownBy w' v.ownBlock → K (a.put o.dst v') w') : o.wp P a w K Q := by
 obtain ⟨i, hi', h1, h2, h3⟩ := info_parts hi
 unfold Oper.wp execOp
 cases A with
 | none =>
   obtain ⟨rfl, rfl⟩ := hnil rfl
   have hnews : news = [] := List.eq_nil_of_length_eq_zero (by omega)
   subst hnews
   have hrun := run_append_owned_none (P := P) w base t o.type e i size ht hi' v n xs hown
   simp only [ho, resolve, invoke, builtin, Sem.run_bind, Sem.run_pure, Result.andThen_ok, List.map_toArray, List.map_cons, List.map_nil, hs, hx, hrun]
   exact h v w (by simpa using hown) (World.grownBy.refl _ _)
 | some ad =>
   have hnews : ∀ j u, news[j]? = some u → w.cell? (ad.add j) = some u := by
    intro j u hj
    rcases hR with hR | ⟨b, off, hA, hc⟩
    ·subst hR; simp at hj
    ·have hlt := (List.getElem?_eq_some_iff.1 hj).1
     injection hA with hA
     subst hA
     rw [Addr.add_lit, hc j hlt]
     rw [List.getElem?_eq_getElem hlt] at hj
     exact hj
   obtain ⟨v', w', hrun, r1, r2, _⟩ := run_append_own (P := P) w base t o.type e i z size bytes ht hi' h1 h2 h3 hzs hsz v n xs hown ad m c news hm hnews hu h63 hn hb
   simp only [ho, resolve, invoke, builtin, Sem.run_bind, Sem.run_pure, Result.andThen_ok, List.map_toArray, List.map_cons, List.map_nil, hs, hx, hrun]
   exact h v' w' r1 r2
end
end Go.Proofs.YtjjpdnpbhdcpbaaGreat
namespace Go.Proofs.YtjjpdnpbhdcpbaaGreat
set_option linter.unusedVariables false
open Go.ChangeShapes hiding strs
open Go.WideShapes Go.ChangeAt Go.RowKit
theorem strs_of {H : Type} {enc : TypeId × Value → H} {P : Program} {t e : TypeId} {W : World} {n : Nat} {v : Value} {x : DataW H × List MemPlace}
 (ht : P.underlying t = some (.slice e)) (he : P.underlying e = some .string) (hc : P.cellsOf e = 1) (hf : DataW.trod enc P W 0 (fun _ => true) true n t [v] = some x) :
 ∃ (A : Option Addr) (L : List (List UInt8)) (c : Nat), v = .slice A L.length c ∧ Rd W A (strs L) ∧ (A = none → L.length = 0 ∧ c = 0) ∧ L.length ≤ c ∧ c ≤ maxLen ∧ (∀ s ∈ L, s.length ≤ maxLen) ∧
   ((x.1 = .nil ∧ L = []) ∨ ∃ rest, x.1 = .slice (L.map fun s => .lit (.string s)) rest) := by
 rcases open_strings ht he hc hf with ⟨hcs, hx⟩ | ⟨a, len', cap', ss, hcs, _, hl, hm, hz, hx, hcell, hws⟩
 ·simp at hcs
  subst hcs
  subst hx
  exact ⟨none, [], 0, rfl, Rd.nil _ _, fun _ => ⟨rfl, rfl⟩, Nat.le_refl _, by simp [maxLen], by simp, .inl ⟨rfl, rfl⟩⟩
 ·simp at hcs
  subst hcs
  simp at hz
  subst hx
  have hlen : ((ss.take len').map fun s => s.data.toList).length = len' := by simp; omega
  refine ⟨some a, (ss.take len').map fun s => s.data.toList, cap', by rw [hlen], ?_, (fun h => by cases h), by rw [hlen]; exact hl, hm, ?_, .inr ⟨ChangeShapes.strs (List.drop len' ss), ?_⟩⟩
  ·by_cases h0 : len' = 0
   ·left; subst h0; simp [strs]
   ·have hc0 := hcell 0 (by omega)
    obtain ⟨b, off, spot⟩ := a
    have hspot : spot = none := by simpa [Addr.add] using World.cell?_spot hc0
    subst hspot
    right
    refine ⟨b, off, rfl, fun j hj => ?_⟩
    have hj' : j < len' := by rw [strs_length, hlen] at hj; exact hj
    have hjs : j < ss.length := by omega
    have := hcell j hjs
    rw [Addr.add_lit] at this
    rw [this]
    simp [strs, hjs]
  ·intro s hs
   simp only [List.mem_map] at hs
   obtain ⟨b, hb, rfl⟩ := hs
   have := hws b (List.mem_of_mem_take hb)
   show b.data.toList.length ≤ maxLen
   rw [Array.length_toList]
   exact this
  ·rw [List.map_map]
   rfl
end Go.Proofs.YtjjpdnpbhdcpbaaGreat
