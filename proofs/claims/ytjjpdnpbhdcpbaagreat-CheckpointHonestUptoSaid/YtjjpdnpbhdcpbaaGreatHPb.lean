/- Lemmas and contracts on what the walks need, several small texts in one. Conditions: as each theorem states. -/
import Derived.Test.YtjjpdnpbhdcpbaaGreatQPc
import Derived.Test.YtjjpdnpbhdcpbaaGreatQSgL
import Derived.Test.YtjjpdnpbhdcpbaaGreatQPb
import Derived.Test.YtjjpdnpbhdcpbaaGreatQSgJ
import Derived.Test.YtjjpdnpbhdcpbaaGreatQSgI
import Derived.Test.YtjjpdnpbhdcpbaaGreatQSgH
import Derived.Test.YtjjpdnpbhdcpbaaGreatQSgG
import Derived.Test.YtjjpdnpbhdcpbaaGreatQSgF
import Derived.Test.YtjjpdnpbhdcpbaaGreatQPa
import Derived.Test.YtjjpdnpbhdcpbaaGreatQMkA
import Derived.Test.YtjjpdnpbhdcpbaaGreatLayJ
import Derived.Test.YtjjpdnpbhdcpbaaGreatHPa
import Derived.Test.YtjjpdnpbhdcpbaaGreatQBase
import Derived.Test.YtjjpdnpbhdcpbaaGreatQShaA
import Derived.Test.YtjjpdnpbhdcpbaaGreatProg
import Derived.Laws.BitsAllLaws
import Derived.BigQuiet
import Derived.BigRegion
import Derived.Deep.RegionHeld3
import Derived.Test.YtjjpdnpbhdcpbaaGreatLayC
import Derived.Test.YtjjpdnpbhdcpbaaGreatLay
import Derived.Test.YtjjpdnpbhdcpbaaGreatQShaB
import Derived.Laws.CopyRow
import Derived.Laws.IdiomStrings
import Derived.Lib.Bytealg
import Derived.Laws.MakeOwn
import Derived.Test.YtjjpdnpbhdcpbaaGreatLayL
import Derived.Test.YtjjpdnpbhdcpbaaGreatQCdA
import Derived.Lib.Builder
import Derived.Lib.UnsafeStr
import Derived.Lib.AppendStr
import Derived.Lib.FrozenHead
import Derived.Test.YtjjpdnpbhdcpbaaGreatHMkB
import Derived.Test.YtjjpdnpbhdcpbaaGreatQMkB
import Derived.Test.YtjjpdnpbhdcpbaaGreatLayR
import Derived.Lib.OthersKept
import Derived.Test.YtjjpdnpbhdcpbaaGreatQSgD
import Derived.RangeFuncNested
import Derived.RangeFuncBound
import Derived.RangeFuncCalls
import Derived.RangeFuncLeaves
import Derived.Shelf.Abstract
import Derived.Shelf.RegionOpen
import Derived.OwnWalkIn
import Derived.TacticsInMore
import Derived.LoopNIn
import Derived.LoopIn
import Derived.Lib.FrozenHead2
import Derived.OrdersIn
import Derived.RangeFuncFrom
import Derived.Laws.ResultCell
import Derived.Test.YtjjpdnpbhdcpbaaGreatQCdB
import Derived.Laws.DeepNot64
import Derived.Test.YtjjpdnpbhdcpbaaGreatQPe
import Derived.Test.YtjjpdnpbhdcpbaaGreatQCkO
import Derived.Test.YtjjpdnpbhdcpbaaGreatQPd
import Derived.Test.YtjjpdnpbhdcpbaaGreatQCkL
import Derived.Test.YtjjpdnpbhdcpbaaGreatQCkK
import Derived.Test.YtjjpdnpbhdcpbaaGreatQCkJ
import Derived.Test.YtjjpdnpbhdcpbaaGreatQCkI
import Derived.Test.YtjjpdnpbhdcpbaaGreatQCkH
import Derived.Test.YtjjpdnpbhdcpbaaGreatQCkF
import Derived.Test.YtjjpdnpbhdcpbaaGreatQCkE
import Derived.Test.YtjjpdnpbhdcpbaaGreatQCkC
import Derived.Maps.OwnSet
import Derived.Deep.AppendLies
import Derived.Deep.RegionLaw
namespace Go.Proofs.YtjjpdnpbhdcpbaaGreat
set_option linter.unusedVariables false
open Go.RowKit Go.Shelf
attribute [local go_sem] Oper.semAt_some
theorem wraps_nat (x : Nat) (h : x < 1000000) : wrap64 (x : Int) = (x : Int) ∧ IntKind.i64.wrap (x : Int) = (x : Int) :=
 ⟨IntWalk.wrap64_in _ (by omega), by rw [IntKind.wrap_i64]; omega⟩
theorem larger_spec (b : UInt8) (w : World) : Calls Tryz.prog 45 #[.int .u8 (b.toNat : Int)] w fun e w' => e = .returned (.agg #[.string ⟨(sd b).toArray⟩, .int .i64 2, .int .i64 0]) ∧ Below w.heap.size w w' := by
 have ks := fun W => seed_spec b W
 unfold sd
 generalize List.replicate 32 b = S at ks ⊢
 have h0 := (St.nil w).alloc 23 #[.string ⟨#[]⟩, .int .i64 0, .int .i64 0]
 go_enter Tryz.func45, Tryz.ntmps45
 go_wp2_with fail
 refine (ks _).mono ?_
 rintro e w1 ⟨rfl, b1⟩
 have h1 := h0.under b1
 have d0 := h1.blk.cell 0
 have d1 := h1.blk.cell 1
 have d2 := h1.blk.cell 2
 have f0 := h1.blk.frozen 0
 have f1 := h1.blk.frozen 1
 have f2 := h1.blk.frozen 2
 have H6 := Lib.hid (((h1.set_ 0 (.string ⟨S.toArray⟩)).set_ 1 (.int .i64 2)).set_ 2 (.int .i64 0))
 clear h1 h0 b1 ks
 go_wp2
 refine bodyPost_ret (results_cell_row rfl _ _ _ _ _ _ _ rfl H6.out.blk Tryz.underlying23 rfl size_key) rfl ?_
 exact ⟨rfl, H6.out.below⟩
set_option maxRecDepth 20000 in
set_option maxHeartbeats 1000000 in
theorem leaves_spec (A : Option Addr) (L : List Mk.Str) (c : Nat) (w : World) (hR : Rd w A (strs L)) (hb : weight L ≤ 1073741824) :
 Calls Tryz.prog 43 #[.slice A L.length c] w (SlR (L.map Mk.leaf) w) := by
 have hLl : L.length ≤ 1073741824 := by unfold weight at hb; omega
 have hel : ∀ k (h : k < L.length), L[k].length ≤ 1073741824 := fun k h => by
  have h1 := weight_take L k h
  have h2 := weight_take_le L (k + 1)
  unfold weight at hb
  omega
 have HR := Lib.hid (And.intro hR hel)
 clear hR hel hb
 go_enter Tryz.func43, Tryz.ntmps43
 go_wp2
 go_loopw [3, 8] (fun s i wr => ∃ k : Nat, k ≤ L.length ∧ i = .int .i64 k ∧ wr.ownsRow w.heap.size 9 1 s k (strs ((L.map Mk.leaf).take k)) ∧ Below w.heap.size w wr) (fun _ i _ => L.length - (intOf i).toNat)
 case atStart => exact ⟨0, Nat.zero_le _, rfl, ⟨rfl, .inl ⟨rfl, rfl⟩⟩, Below.refl _ _⟩
 case round =>
  obtain ⟨k, hk, rfl, own, hbe⟩ := hrel
  obtain ⟨A1, c1, rfl, hc1, hc2⟩ := own_form own
  have hsz := hbe.size
  by_cases hlt : k < L.length
  ·obtain ⟨b, off, hA, hcc⟩ := (HR.out.1.below hbe).str hlt
   subst hA
   have hst : strs ((L.map Mk.leaf).take (k + 1)) = strs ((L.map Mk.leaf).take k) ++ [.string ⟨(Mk.leaf L[k]).toArray⟩] := by
    rw [List.take_succ_eq_append_getElem (by simpa using hlt), strs_append, List.getElem_map]
    rfl
   have b1 : (k + 1) * 16 ≤ 140737488355328 := by omega
   have b2 : k + 1 ≤ maxLen := by unfold maxLen; omega
   have hkd : (k : Int) < (L.length : Int) := by omega
   have kl := fun W => rleaf_spec L[k] (HR.out.2 k hlt) W
   generalize Mk.leaf L[k] = y at kl hst
   generalize L[k] = x at kl hcc
   have HO := Lib.hid (And.intro own (And.intro hbe (And.intro hst hc1)))
   clear own hbe hst
   go_wp2_with fail
   refine (kl _).mono ?_
   rintro e w5 ⟨rfl, b5⟩
   have own5 := (Mod.of_below b5 (fun _ => False)).owns HO.out.1 (fun _ _ h => h)
   have hb5 := HO.out.2.1.trans (b5.mono hsz)
   have hs5 := hb5.size
   have H5 := Lib.hid own5
   clear own5
   go_wp2_with (at_builtin; go_must (refine append1 _ 27 9 (.string ⟨#[]⟩) 16 w.heap.size Tryz.underlying27 info_str rfl rfl _ _ rfl _ _ _ _ _ (H5.out.alloc _) rfl rfl (one_new _ _ _) rfl b1 b2 (by simp; omega) ?_); intro v' w1 hown1 hg1)
   go_roundw
   case rel =>
    refine ⟨k + 1, by omega, by go_num, ?_, (hb5.alloc hs5 _).grown hg1 (by simp; omega) (fun k hk => (H5.out.lt k hk).1)⟩
    rw [HO.out.2.2.1]
    exact hown1
   case measure => simp [intOf]; omega
  ·obtain rfl : k = L.length := by omega
   have hfull : (L.map Mk.leaf).take L.length = L.map Mk.leaf := by rw [List.take_of_length_le (by simp)]
   rw [hfull] at own
   have HO := Lib.hid (And.intro own hbe)
   clear own hbe
   go_wp2
   go_ret
   have hl : (L.map Mk.leaf).length = L.length := by simp
   refine ⟨A1, c1, by rw [hl]; rfl, by rw [hl]; exact hc1, hc2, ?_⟩
   rw [hl]
   exact (St.nil w).new_own HO.out.2 HO.out.1
end Go.Proofs.YtjjpdnpbhdcpbaaGreat
namespace Go.Proofs.YtjjpdnpbhdcpbaaGreat
set_option linter.unusedVariables false
open Go.RowKit Go.Shelf
theorem cnt_other (o : Sg.Str) (z : Int) (r key : Sg.Str) (x : SgRow) (hk : ¬ x.key = key) : cntB o z r key [x] = false := by
 unfold cntB hitB
 rw [List.any_cons, beq_eq_false_iff_ne.2 hk]
 simp
theorem cos_three (o : Sg.Str) (z : Int) (r : Sg.Str) (x : SgRow) (p : Sg.Str) (hh : headB o z r = true) (hv : verB x.key (Sg.dgs (5 :: headS o z r)) x.i x.C x.T = true) : cosN o z r [x] [] [x.key, x.key, p] = 1 := by
 unfold cosN
 rw [if_neg (by simp), cnt_one o z r x hh hv, if_pos rfl]
 unfold cosN
 rw [if_pos (by simp)]
 unfold cosN
 by_cases hp : p = x.key
 ·rw [if_pos (by rw [hp]; simp)]
  rfl
 ·rw [if_neg (by simpa using hp), cnt_other o z r p x (fun e => hp e.symm), if_neg (by decide)]
  rfl
end Go.Proofs.YtjjpdnpbhdcpbaaGreat
namespace Go.Proofs.YtjjpdnpbhdcpbaaGreat
set_option linter.unusedVariables false
open Go.RowKit Go.Shelf
attribute [local go_sem] Oper.semAt_some
theorem rd_val {w : World} {A : Option Addr} {L : List UInt8} (h : Rd w A (vals L)) {k : Nat} (hk : k < L.length) : ∃ b off, A = some ⟨b, off, none⟩ ∧ w.cell? ⟨b, off + k, none⟩ = some (.int .u8 (L[k].toNat : Int)) := by
 rcases h with h | ⟨b, off, rfl, hc⟩
 ·have : L = [] := by simpa [vals] using h
  subst this
  simp at hk
 ·refine ⟨b, off, rfl, ?_⟩
  rw [hc k (by rw [vals_length]; exact hk)]
  simp [vals]
theorem rd_val_at {w : World} {b off : Nat} {L : List UInt8} (h : Rd w (some ⟨b, off, none⟩) (vals L)) {k : Nat} (hk : k < L.length) : w.cell? ⟨b, off + k, none⟩ = some (.int .u8 (L[k].toNat : Int)) := by
 obtain ⟨b', off', e, hc⟩ := rd_val h hk
 injection e with e
 injection e with e1 e2
 subst e1 e2
 exact hc
theorem own_some {w : World} {base : Nat} {e : TypeId} {size n c : Nat} {A : Option Addr} {xs : List Value} (h : w.ownsRow base e size (.slice A n c) n xs) (hn : 0 < n) : ∃ g, A = some ⟨g, 0, none⟩ := by
 rcases h.2 with ⟨_, h3⟩ | ⟨g, cap, cur, hv, _⟩
 ·omega
 ·injection hv with hv
  exact ⟨g, hv⟩
end Go.Proofs.YtjjpdnpbhdcpbaaGreat
