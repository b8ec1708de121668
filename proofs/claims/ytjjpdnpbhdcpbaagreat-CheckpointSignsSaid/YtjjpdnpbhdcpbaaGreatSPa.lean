/- Lemmas and contracts on what the walks need, several small texts in one. Conditions: as each theorem states. -/
import Derived.Test.YtjjpdnpbhdcpbaaGreatQMkA
import Derived.Test.YtjjpdnpbhdcpbaaGreatLayJ
import Derived.Test.YtjjpdnpbhdcpbaaGreatQBase
import Derived.WalkKit
import Derived.WalkSpells
import Derived.WalkLawsBesides
import Derived.Lib.Hide
import Derived.RegionTactic
import Derived.Deep.Draws
import Derived.Deep.QuietTactic
import Derived.BigQuiet
import Derived.Deep.LoopGhost
import Derived.Deep.DeepFit
import Derived.Deep.DeepCutAuto
import Derived.Maps.AppendAt
import Derived.Deep.RegionHeld3
import Derived.Deep.MidRow
import Derived.Deep.AppendLies
import Derived.Test.YtjjpdnpbhdcpbaaGreatProg
import Derived.Test.YtjjpdnpbhdcpbaaGreatQShaA
import Derived.Laws.BitsAllLaws
import Derived.BigRegion
import Derived.Test.YtjjpdnpbhdcpbaaGreatLayC
import Derived.Test.YtjjpdnpbhdcpbaaGreatLay
import Derived.Test.YtjjpdnpbhdcpbaaGreatQShaB
import Derived.Laws.CopyRow
import Derived.Laws.IdiomStrings
import Derived.Lib.Bytealg
import Derived.Laws.MakeOwn
import Derived.Test.YtjjpdnpbhdcpbaaGreatLayL
import Derived.Test.YtjjpdnpbhdcpbaaGreatQCdA
import Derived.Lib.Builder
import Derived.Lib.UnsafeStr
import Derived.Lib.AppendStr
import Derived.Lib.FrozenHead
import Derived.Test.YtjjpdnpbhdcpbaaGreatQPa
import Derived.Test.YtjjpdnpbhdcpbaaGreatQMkB
import Derived.StillTailTactics
import Derived.Test.YtjjpdnpbhdcpbaaGreatQPc
import Derived.Test.YtjjpdnpbhdcpbaaGreatQSgL
import Derived.Test.YtjjpdnpbhdcpbaaGreatQPb
import Derived.Test.YtjjpdnpbhdcpbaaGreatQSgJ
import Derived.Test.YtjjpdnpbhdcpbaaGreatQSgI
import Derived.Test.YtjjpdnpbhdcpbaaGreatQSgH
import Derived.Test.YtjjpdnpbhdcpbaaGreatQSgG
import Derived.Test.YtjjpdnpbhdcpbaaGreatQSgF
import Derived.Test.YtjjpdnpbhdcpbaaGreatLayR
import Derived.Lib.OthersKept
import Derived.Test.YtjjpdnpbhdcpbaaGreatQSgD
import Derived.RangeFuncNested
import Derived.RangeFuncBound
import Derived.RangeFuncCalls
import Derived.RangeFuncLeaves
import Derived.Shelf.Abstract
import Derived.Shelf.RegionOpen
import Derived.OwnWalkIn
import Derived.TacticsInMore
import Derived.LoopNIn
import Derived.LoopIn
import Derived.Lib.FrozenHead2
import Derived.OrdersIn
import Derived.RangeFuncFrom
import Derived.Laws.ResultCell
import Derived.Test.YtjjpdnpbhdcpbaaGreatQCdB
import Derived.Laws.DeepNot64
import Derived.Test.YtjjpdnpbhdcpbaaGreatRows
import Derived.ProofKit
import Derived.OpenShut
import Derived.JoinedCond
import Derived.ShutString
import Derived.ChangeOld
import Derived.Lib.SmallJoins
namespace Go.Proofs.YtjjpdnpbhdcpbaaGreat
set_option linter.unusedVariables false
open Go.RowKit Go.Shelf
end Go.Proofs.YtjjpdnpbhdcpbaaGreat
namespace Go.Proofs.YtjjpdnpbhdcpbaaGreat.Mk
set_option linter.unusedVariables false
end Go.Proofs.YtjjpdnpbhdcpbaaGreat.Mk
namespace Go.Proofs.YtjjpdnpbhdcpbaaGreat.Mk
set_option linter.unusedVariables false
end Go.Proofs.YtjjpdnpbhdcpbaaGreat.Mk
namespace Go.Proofs.YtjjpdnpbhdcpbaaGreat
set_option linter.unusedVariables false
open Go.RowKit Go.Shelf
end Go.Proofs.YtjjpdnpbhdcpbaaGreat
namespace Go.Proofs.YtjjpdnpbhdcpbaaGreat
set_option linter.unusedVariables false
open Go.RowKit
end Go.Proofs.YtjjpdnpbhdcpbaaGreat
namespace Go.Proofs.YtjjpdnpbhdcpbaaGreat
set_option linter.unusedVariables false
open Go.RowKit
set_option maxRecDepth 20000 in
set_option maxHeartbeats 4000000 in
theorem rincl_spec : ∀ (n : Nat) (A : Option Addr) (L : List Mk.Str) (i c : Nat) (w : World), L.length ≤ n → n ≤ 1099511627776 → Rd w A (strs L) → L.length ≤ c → c ≤ maxLen → i < L.length →
 Calls Tryz.prog 151 #[.slice A L.length c, .int .i64 (i : Int)] w fun e w' => ∃ v, e = .returned v ∧ St w.heap.size w w' [ownR 9 1 v (Mk.incl L i).length (strs (Mk.incl L i))] := by
 intro n
 induction n with
 | zero => intro A L i c w hl hn hR hc hm hi; omega
 | succ n ih =>
   intro A L i c w hl hn hR hc hm hi
   by_cases h2 : L.length < 2
   ·have h1 : L.length = 1 := by omega
    rw [Mk.incl_one L i h2, h1]
    clear hl h2 hR hc hi h1
    go_enter Tryz.func151, Tryz.ntmps151
    go_wp2
    go_ret
    exact ⟨_, rfl, (St.nil w).new_own (Below.refl _ w) (World.ownsRow_nil _ _ _ _)⟩
   ·obtain ⟨b, off, hA, _⟩ := hR.str (k := 0) (by omega)
    subst hA
    have hk0 := Mk.split_pos L.length
    have hk1 := Mk.split_lt (n := L.length) (by omega)
    have ks := fun W => rsplit_spec L.length (by omega) (by omega) W
    obtain ⟨k, hk⟩ : ∃ k, Mk.split L.length = k := ⟨_, rfl⟩
    have ht := rd_take hR k
    have hd := rd_drop hR k
    have lt : k ≤ L.length → (L.take k).length = k := fun h => by rw [List.length_take]; omega
    have ld : (L.drop k).length = L.length - k := List.length_drop
    by_cases hik : i < k
    ·rw [hk] at hk0 hk1 ks
     have k1 := fun (W : World) (hb : Below w.heap.size w W) => ih (some ⟨b, off, none⟩) (L.take k) i c W (by rw [lt (by omega)]; omega) (by omega) (ht.below hb) (by rw [lt (by omega)]; omega) hm (by rw [lt (by omega)]; omega)
     have k2 := fun (W : World) (hb : Below w.heap.size w W) => rroot_spec (L.length) (some ⟨b, off + k, none⟩) (L.drop k) (c - k) W (by omega) (by omega) (hd.below hb) (by omega) (by unfold maxLen at hm ⊢; omega)
     have hin := Mk.incl_left L i (by omega) (by rw [hk]; exact hik)
     have hml := Mk.incl_length _ (L.take k) i rfl
     have hmd := Mk.depth_le i (L.take k).length
     rw [lt (by omega)] at k1 hml hmd
     rw [ld] at k2
     rw [hk] at hin
     have HN := Lib.hid hin
     generalize Mk.incl (L.take k) i = M at k1 HN hml
     generalize Mk.root (L.drop k) = R at k2 HN
     obtain ⟨N, hN⟩ : ∃ N, L.length = N := ⟨_, rfl⟩
     rw [hN] at hl hc h2 hk1 ks hi k2 ⊢
     have hM : M.length ≤ N := by omega
     have q2 : M.length + 1 ≤ maxLen := by unfold maxLen; omega
     have q1 : (M.length + 1) * 16 ≤ 140737488355328 := by omega
     obtain ⟨mm, hmm⟩ : ∃ mm, M.length = mm := ⟨_, rfl⟩
     have HM := Lib.hid (show (mm + 1 : Nat) = M.length + 1 by rw [hmm])
     have HX := Lib.hid (And.intro hN (And.intro hk (And.intro hR (And.intro ht hd))))
     clear hN hk hR ht hd lt ld ih hin hml hmd hM hmm
     have i0 : ((N : Int) == 1) = false := by rw [beq_eq_false_iff_ne]; omega
     have i2 : (0 : Int) ≤ (k : Int) := by omega
     have i3 : (k : Int) ≤ (N : Int) := by omega
     have i4 : (k : Int) ≤ (c : Int) := by omega
     have i5 : (N : Int) ≤ (c : Int) := by omega
     have i6 : ¬ (k = c) := by omega
     have i7 : ((N - k : Nat) : Int) = (N : Int) - (k : Int) := by omega
     have i8 : ((c - k : Nat) : Int) = (c : Int) - (k : Int) := by omega
     have i9 : ¬ (c = k) := by omega
     have g1 : decide ((i : Int) < (k : Int)) = true := by simp; omega
     unfold maxLen at hm
     go_enter Tryz.func151, Tryz.ntmps151
     go_wp2_with (first
      | ((with_reducible refine (ks _).mono ?_); rintro e w1 ⟨rfl, rfl⟩)
      | fail)
     have b0 : Below w.heap.size w w.drew := (Below.refl _ w).drew
     have s0 : St w.heap.size w w.drew [] := (St.nil w).drew
     go_region_held3 (fun w' => w.heap.size ≤ w'.heap.size)
      (first
        | exact Nat.le_refl _
        | exact h8.size
        | exact (h2.alloc0 _).size
        | exact h2.size
        | exact h1.size
        | fail)
      (first
        | (with_reducible refine (k1 _ b0).mono ?_
           rintro e w1 ⟨v1, rfl, t1⟩
           have h1 := s0.join t1)
        | (with_reducible refine (k2 _ h1.below).mono ?_
           rintro e w2 ⟨rfl, c2⟩
           have h2 := h1.under c2)
        | (refine stepA 27 (te := 9) (u := .string ⟨R.toArray⟩) h2 Tryz.underlying27 info_str rfl _ _ (by rfl) (by rfl) (by rfl) (by rfl) rfl q2 q1 ?_
           intro gg cap w5 h8)
        | fail)
     all_goals
      go_wp2
      go_ret
      refine ⟨_, rfl, ?_⟩
      rw [HN.out, strs_append, List.length_append]
      exact h8
    ·rw [hk] at hk0 hk1 ks
     have k1 := fun (W : World) (hb : Below w.heap.size w W) => ih (some ⟨b, off + k, none⟩) (L.drop k) (i - k) (c - k) W (by omega) (by omega) (hd.below hb) (by omega) (by unfold maxLen at hm ⊢; omega) (by omega)
     have k2 := fun (W : World) (hb : Below w.heap.size w W) => rroot_spec (L.length) (some ⟨b, off, none⟩) (L.take k) c W (by rw [lt (by omega)]; omega) (by omega) (ht.below hb) (by rw [lt (by omega)]; omega) hm
     have hin := Mk.incl_right L i (by omega) (by rw [hk]; exact hik)
     have hml := Mk.incl_length _ (L.drop k) (i - k) rfl
     have hmd := Mk.depth_le (i - k) (L.drop k).length
     rw [ld] at k1 hml hmd
     rw [lt (by omega)] at k2
     rw [hk] at hin
     have HN := Lib.hid hin
     have j1 : (i : Int) - (k : Int) = ((i - k : Nat) : Int) := by omega
     generalize i - k = i' at k1 HN hml hmd j1
     generalize Mk.incl (L.drop k) i' = M at k1 HN hml
     generalize Mk.root (L.take k) = R at k2 HN
     obtain ⟨N, hN⟩ : ∃ N, L.length = N := ⟨_, rfl⟩
     rw [hN] at hl hc h2 hk1 ks hi hml hmd k1 ⊢
     have hM : M.length ≤ N := by omega
     have q2 : M.length + 1 ≤ maxLen := by unfold maxLen; omega
     have q1 : (M.length + 1) * 16 ≤ 140737488355328 := by omega
     obtain ⟨mm, hmm⟩ : ∃ mm, M.length = mm := ⟨_, rfl⟩
     have HM := Lib.hid (show (mm + 1 : Nat) = M.length + 1 by rw [hmm])
     have HX := Lib.hid (And.intro hN (And.intro hk (And.intro hR (And.intro ht hd))))
     clear hN hk hR ht hd lt ld ih hin hml hmd hM hmm
     have i0 : ((N : Int) == 1) = false := by rw [beq_eq_false_iff_ne]; omega
     have i2 : (0 : Int) ≤ (k : Int) := by omega
     have i3 : (k : Int) ≤ (N : Int) := by omega
     have i4 : (k : Int) ≤ (c : Int) := by omega
     have i5 : (N : Int) ≤ (c : Int) := by omega
     have i6 : ¬ (k = c) := by omega
     have i7 : ((N - k : Nat) : Int) = (N : Int) - (k : Int) := by omega
     have i8 : ((c - k : Nat) : Int) = (c : Int) - (k : Int) := by omega
     have i9 : ¬ (c = k) := by omega
     have j2 : IntKind.i64.wrap (i' : Int) = (i' : Int) := by rw [IntWalk.i64_left, IntWalk.wrap64_in _ (by omega)]
     have g1 : decide ((i : Int) < (k : Int)) = false := by simp; omega
     unfold maxLen at hm
     go_enter Tryz.func151, Tryz.ntmps151
     go_wp2_with (first
      | ((with_reducible refine (ks _).mono ?_); rintro e w1 ⟨rfl, rfl⟩)
      | fail)
     have b0 : Below w.heap.size w w.drew := (Below.refl _ w).drew
     have s0 : St w.heap.size w w.drew [] := (St.nil w).drew
     go_region_held3 (fun w' => w.heap.size ≤ w'.heap.size)
      (first
        | exact Nat.le_refl _
        | exact h8.size
        | exact (h2.alloc0 _).size
        | exact h2.size
        | exact h1.size
        | fail)
      (first
        | (with_reducible refine (k1 _ b0).mono ?_
           rintro e w1 ⟨v1, rfl, t1⟩
           have h1 := s0.join t1)
        | (with_reducible refine (k2 _ h1.below).mono ?_
           rintro e w2 ⟨rfl, c2⟩
           have h2 := h1.under c2)
        | (refine stepA 27 (te := 9) (u := .string ⟨R.toArray⟩) h2 Tryz.underlying27 info_str rfl _ _ (by rfl) (by rfl) (by rfl) (by rfl) rfl q2 q1 ?_
           intro gg cap w5 h8)
        | fail)
     all_goals
      go_wp2
      go_ret
      refine ⟨_, rfl, ?_⟩
      rw [HN.out, strs_append, List.length_append]
      exact h8
end Go.Proofs.YtjjpdnpbhdcpbaaGreat
namespace Go.Proofs.YtjjpdnpbhdcpbaaGreat
set_option linter.unusedVariables false
namespace Cd
end Cd
end Go.Proofs.YtjjpdnpbhdcpbaaGreat
namespace Go.Proofs.YtjjpdnpbhdcpbaaGreat
set_option linter.unusedVariables false
open Go.RowKit
end Go.Proofs.YtjjpdnpbhdcpbaaGreat
namespace Go.Proofs.YtjjpdnpbhdcpbaaGreat
set_option linter.unusedVariables false
open Go.RowKit
end Go.Proofs.YtjjpdnpbhdcpbaaGreat
namespace Go.Proofs.YtjjpdnpbhdcpbaaGreat
set_option linter.unusedVariables false
open Go.RowKit
set_option maxHeartbeats 400000 in
theorem text_ref (s : List UInt8) (hs : s.length ≤ 1099511627776) (w : World) :
 Calls Tryz.prog 72 #[.string ⟨s.toArray⟩] w fun e w' => e = .returned (.string ⟨(Cd.text s).toArray⟩) ∧ Below w.heap.size w w' := by
 have hu := fun w => unsigned_ref s.length (by omega) w
 have hl := Cd.uns_len s.length
 go_enter Tryz.func72, Tryz.ntmps72
 go_wp2_with (go_at_call 125; go_must (refine (hu _).mono ?_); rintro e w' ⟨rfl, hb1⟩)
 go_ret
 exact ⟨ret_eq (by simp [bytes_append, Cd.text]), hb1⟩
end Go.Proofs.YtjjpdnpbhdcpbaaGreat
namespace Go.Proofs.YtjjpdnpbhdcpbaaGreat
set_option linter.unusedVariables false
open Go.RowKit
end Go.Proofs.YtjjpdnpbhdcpbaaGreat
namespace Go.Proofs.YtjjpdnpbhdcpbaaGreat
set_option linter.unusedVariables false
namespace Cd
end Cd
end Go.Proofs.YtjjpdnpbhdcpbaaGreat
namespace Go.Proofs.YtjjpdnpbhdcpbaaGreat.Sg
set_option linter.unusedVariables false
theorem dl_take (s : Str) (k : Nat) (h : k < s.length) : dl (s.take (k + 1)) = dl (s.take k) ++ [s[k].toNat / 16, s[k].toNat % 16] := by
 unfold dl
 rw [List.take_succ_eq_append_getElem h, List.flatMap_append]
 simp only [List.flatMap_cons, List.flatMap_nil, List.append_nil]
theorem chn_succ (seed : Str) (i : Nat) (d : List Nat) (k : Nat) : chn seed i d (k + 1) = chn seed i d k ++ [wlk i k 0 (d.getD k 0) (sec seed i k)] := by simp [chn, List.range_succ]
end Go.Proofs.YtjjpdnpbhdcpbaaGreat.Sg
namespace Go.Proofs.YtjjpdnpbhdcpbaaGreat
set_option linter.unusedVariables false
open Go.RowKit
end Go.Proofs.YtjjpdnpbhdcpbaaGreat
namespace Go.Proofs.YtjjpdnpbhdcpbaaGreat
set_option linter.unusedVariables false
open Go.RowKit
end Go.Proofs.YtjjpdnpbhdcpbaaGreat
namespace Go.Proofs.YtjjpdnpbhdcpbaaGreat
set_option linter.unusedVariables false
open Go.RowKit
set_option maxRecDepth 20000 in
set_option maxHeartbeats 2000000 in
theorem inc_rk (A : Option Addr) (L : List Mk.Str) (c : Nat) (i : Int) (w : World) (hR : Rd w A (strs L)) (hl : L.length ≤ 1099511627776) (hc : L.length ≤ c) (hm : c ≤ maxLen) :
 Calls Tryz.prog 105 #[.slice A L.length c, .int .i64 i] w (PrP (mInc L i) w) := by
 have k1 := rvalid_spec A L c w hR (by omega)
 have z0 : St w.heap.size w w [ownR 9 1 (.slice none 0 0) 0 (strs [])] := (St.nil w).new_own (Below.refl _ w) (World.ownsRow_nil _ _ _ _)
 unfold mInc
 cases hq : (decide (L.length ≤ 4096) && vld L) with
 | true =>
   rw [hq] at k1
   clear hq
   rw [if_pos rfl]
   by_cases h0 : i < 0
   ·rw [if_pos (.inl h0)]
    have g0 : decide (i < 0) = true := by simp; exact h0
    clear hR
    go_enter Tryz.func105, Tryz.ntmps105
    go_wp2_with fail
    refine k1.mono ?_
    rintro e w' ⟨rfl, rfl⟩
    go_wp2
    go_ret2
    exact ⟨_, rfl, z0⟩
   have g0 : decide (i < 0) = false := by simp; omega
   by_cases h1 : (L.length : Int) ≤ i
   ·rw [if_pos (.inr h1)]
    have g1 : decide (i ≥ (L.length : Int)) = true := by simp; omega
    clear hR
    go_enter Tryz.func105, Tryz.ntmps105
    go_wp2_with fail
    refine k1.mono ?_
    rintro e w' ⟨rfl, rfl⟩
    go_wp2
    go_ret2
    exact ⟨_, rfl, z0⟩
   ·rw [if_neg (by omega)]
    have g1 : decide (i ≥ (L.length : Int)) = false := by simp; omega
    obtain ⟨m, rfl⟩ : ∃ m : Nat, i = m := ⟨i.toNat, by omega⟩
    have k2 := rincl_spec L.length A L m c w (Nat.le_refl _) (by omega) hR hc hm (by omega)
    rw [Int.toNat_natCast]
    clear hR
    generalize Mk.incl L m = M at k2 ⊢
    go_enter Tryz.func105, Tryz.ntmps105
    go_wp2_with fail
    refine k1.mono ?_
    rintro e w' ⟨rfl, rfl⟩
    go_wp2_with fail
    refine k2.mono ?_
    rintro e w' ⟨v, rfl, h⟩
    go_wp2
    go_ret2
    exact ⟨_, rfl, h⟩
 | false =>
   rw [hq] at k1
   clear hq hR
   rw [if_neg (by simp)]
   go_enter Tryz.func105, Tryz.ntmps105
   go_wp2_with fail
   refine k1.mono ?_
   rintro e w' ⟨rfl, rfl⟩
   go_wp2
   go_ret2
   exact ⟨_, rfl, z0⟩
end Go.Proofs.YtjjpdnpbhdcpbaaGreat
namespace Go.Proofs.YtjjpdnpbhdcpbaaGreat
set_option linter.unusedVariables false
open Go.RowKit
end Go.Proofs.YtjjpdnpbhdcpbaaGreat
namespace Go.Proofs.YtjjpdnpbhdcpbaaGreat
set_option linter.unusedVariables false
open Go.RowKit
end Go.Proofs.YtjjpdnpbhdcpbaaGreat
namespace Go.Proofs.YtjjpdnpbhdcpbaaGreat
set_option linter.unusedVariables false
open Go.RowKit
end Go.Proofs.YtjjpdnpbhdcpbaaGreat
namespace Go.Proofs.YtjjpdnpbhdcpbaaGreat
set_option linter.unusedVariables false
open Go.RowKit
end Go.Proofs.YtjjpdnpbhdcpbaaGreat
namespace Go.Proofs.YtjjpdnpbhdcpbaaGreat
set_option linter.unusedVariables false
open Go.RowKit
end Go.Proofs.YtjjpdnpbhdcpbaaGreat
namespace Go.Proofs.YtjjpdnpbhdcpbaaGreat
set_option linter.unusedVariables false
open Go.RowKit
end Go.Proofs.YtjjpdnpbhdcpbaaGreat
namespace Go.Proofs.YtjjpdnpbhdcpbaaGreat
set_option linter.unusedVariables false
open Go.RowKit Go.Shelf
attribute [local go_sem] Oper.semAt_some
theorem dl_take (s : Sg.Str) (k : Nat) (h : k < s.length) : Sg.dl (s.take (k + 1)) = Sg.dl (s.take k) ++ [s[k].toNat / 16, s[k].toNat % 16] := by
 unfold Sg.dl
 rw [List.take_succ_eq_append_getElem h, List.flatMap_append]
 simp
set_option maxRecDepth 20000 in
set_option maxHeartbeats 4000000 in
theorem rdigits_spec (msg : Sg.Str) (w : World) (hm : msg.length ≤ 1073741824) :
 Calls Tryz.prog 102 #[.string ⟨msg.toArray⟩] w fun e w' => ∃ A c, e = .returned (.slice A 67 c) ∧ 67 ≤ c ∧ c ≤ maxLen ∧ St w.heap.size w w' [ownR 3 1 (.slice A 67 c) 67 (nints (Sg.dgs msg))] := by
 have ksum := fun W' => rsum_spec msg (by omega) W'
 have hdg : Sg.dgs msg = Sg.dl (Sh.sha msg) ++ Sg.tail3 (Sg.lack (Sg.dl (Sh.sha msg))) := rfl
 have hsl : (Sh.sha msg).length = 32 := Sh.sha_length _
 have hll : ∀ k, k ≤ 32 → Sg.lack (Sg.dl ((Sh.sha msg).take k)) ≤ 1000 := fun k hk => by
  have h1 := Sg.lack_le (Sg.dl ((Sh.sha msg).take k))
  rw [Sg.dl_len, List.length_take] at h1
  omega
 have hpl := bytes_size (Sh.sha msg)
 rw [hdg]
 generalize Sh.sha msg = H at *
 rw [hsl] at hpl
 clear hdg
 go_enter Tryz.func102, Tryz.ntmps102
 go_wp2_with fail
 refine (ksum _).mono ?_
 rintro e w1 ⟨rfl, b1⟩
 have h1 : St w.heap.size w (w1.alloc (.cells #[] 3)) [ownR 3 1 (.slice (some ⟨w1.heap.size, 0, none⟩) 0 0) 0 (nints (Sg.dl (H.take 0)))] := ((St.nil w).under b1).new_own ((Below.refl _ w1).alloc (Nat.le_refl _) _) (World.ownsRow_lit w1 #[] 0 (Nat.le_refl _) (by decide) rfl)
 go_wp2_with fail
 go_loopw [4, 5, 6] (fun s4 s5 s6 wr => ∃ (k : Nat) (v' : Value), k ≤ 32 ∧ v' = s4 ∧ s5 = .int .i64 ((Sg.lack (Sg.dl (H.take k)) : Nat) : Int) ∧ s6 = .int .i64 (k : Int) ∧ St w.heap.size w wr [ownR 3 1 v' (2 * k) (nints (Sg.dl (H.take k)))]) (fun _ _ j _ => 32 - (intOf j).toNat)
 case atStart => exact ⟨0, _, by omega, rfl, rfl, rfl, h1⟩
 case round =>
  clear h1 ksum
  obtain ⟨k, v, hk, rfl, rfl, rfl, h⟩ := hrel
  by_cases hlt : k < 32
  ·have hkl : k < H.length := by omega
   have hx : ∀ hh, (⟨H.toArray⟩ : ByteArray)[k]'hh = H[k] := fun hh => at_byte H k hkl hh
   have hdt := dl_take H k hkl
   have hlk : Sg.lack (Sg.dl (H.take (k + 1))) = Sg.lack (Sg.dl (H.take k)) + (15 - H[k].toNat / 16) + (15 - H[k].toNat % 16) := by
    rw [hdt, Sg.lack_append]
    simp [Sg.lack]
    omega
   have hl0 := hll k hk
   have hxl := H[k].toNat_lt
   obtain ⟨n, hn⟩ : ∃ n, H[k].toNat = n := ⟨_, rfl⟩
   have hxn : ∀ hh, ((⟨H.toArray⟩ : ByteArray)[k]'hh).toNat = n := fun hh => by rw [hx hh]; exact hn
   rw [hn] at hdt hlk hxl
   have q1 : IntKind.i64.wrap (n : Int) = (n : Int) := by rw [IntKind.wrap_i64]; omega
   clear hx
   generalize Sg.lack (Sg.dl (H.take k)) = l at hlk hl0 ⊢
   obtain ⟨a, ha⟩ : ∃ a, n / 16 = a := ⟨_, rfl⟩
   obtain ⟨b, hb⟩ : ∃ b, n % 16 = b := ⟨_, rfl⟩
   have e3 : (n : Int).tdiv 16 = (a : Int) := by rw [Int.tdiv_eq_ediv_of_nonneg (by omega)]; omega
   have e5 : (n : Int).tmod 16 = (b : Int) := by rw [Int.tmod_eq_emod_of_nonneg (by omega)]; omega
   have q3 : IntKind.i64.wrap (a : Int) = (a : Int) := by rw [IntKind.wrap_i64]; omega
   have ha15 : a ≤ 15 := by omega
   have hb15 : b ≤ 15 := by omega
   rw [ha, hb] at hdt hlk
   have htk : nints (Sg.dl (H.take (k + 1))) = nints (Sg.dl (H.take k)) ++ [.int .i64 (a : Int), .int .i64 (b : Int)] := by
    rw [hdt]
    unfold nints
    rw [List.map_append]
    rfl
   have HK := Lib.hid (And.intro hlk htk)
   have g1 : decide ((k : Int) < 32) = true := by simp; omega
   have g2 : (k : Int) < 32 := by omega
   have b1 : (2 * k + 2) * 8 ≤ 140737488355328 := by omega
   have b2 : 2 * k + 2 ≤ maxLen := by unfold maxLen; omega
   have b3 : 32 ≤ maxLen := by decide
   have y0 := h.drew
   clear hlk htk hdt ha hb hll hn
   have hT : True := trivial
   have hone : ∀ u ∈ (#[Value.int .i64 (a : Int), Value.int .i64 (b : Int)]).toList, u.oneCell' = true := fun u hu => by
    simp only [List.mem_cons, List.not_mem_nil, or_false] at hu
    rcases hu with rfl | rfl <;> rfl
   go_wp2_with fail
   refine wp_region_noPanic ?_
   refine wp_region_held_drew (S := (fun w' => True)) (by kernel_rfl) ?_ (fun hH0 => ?_)
   ·exact hT
   refine tk 0 16 hH0 ?_
   refine tk 1 17 hH0 ?_
   refine tk 2 18 hH0 ?_
   refine tk 3 19 hH0 ?_
   refine tk 4 20 hH0 ?_
   refine tk 5 21 hH0 ?_
   refine tk 6 22 hH0 ?_
   refine tk 7 23 hH0 ?_
   refine tk 8 24 hH0 ?_
   refine tk 9 25 hH0 ?_
   refine tk 10 26 hH0 ?_
   refine rdy [11] ?_
   refine an 27 fun K hK => ?_
   go_simp
   refine hK.out _ _ ?_ (fun hH1 => ?_)
   ·exact hT
   clear hK K hH0
   try simp only [pu]
   refine rdy [12] ?_
   refine an 28 fun K hK => ?_
   (
    refine stepN 125 #[.int .i64 (a : Int), .int .i64 (b : Int)] h Tryz.underlying125 info_int rfl _ _ (by rfl) (by rfl) (by rfl) (by rfl) rfl (Nat.succ_pos 1) hone b2 b1 ?_
    intro gg cap w5 h8 _)
   refine hK.out _ _ ?_ (fun hH2 => ?_)
   ·exact hT
   clear hK K hH1
   try simp only [pu]
   refine tk 13 4 hH2 ?_
   refine dn ?_ _
   all_goals (refine NoPanic.normal ?_)
   have H8 := Lib.hid h8
   have q4 : IntKind.i64.wrap ((l : Int) + 30) = (l : Int) + 30 := by rw [IntKind.wrap_i64]; omega
   have q5 : IntKind.i64.wrap ((l : Int) + 30 - (a : Int)) = (l : Int) + 30 - (a : Int) := by rw [IntKind.wrap_i64]; omega
   have q6 : IntKind.i64.wrap ((l : Int) + 30 - (a : Int) - (b : Int)) = (l : Int) + 30 - (a : Int) - (b : Int) := by rw [IntKind.wrap_i64]; omega
   clear h h8 y0 hone
   go_wp2
   go_quiet (fail)
   go_wp2
   go_roundw
   case rel => exact ⟨k + 1, _, by omega, rfl, by rw [HK.out.1]; go_num, by go_num, by rw [HK.out.2, show 2 * (k + 1) = 2 * k + 2 from by omega]; exact H8.out.drewN _⟩
   case measure => simp [intOf]; omega
  ·obtain rfl : k = 32 := by omega
   have htk : H.take 32 = H := List.take_of_length_le (by omega)
   have hl0 := hll 32 (Nat.le_refl _)
   rw [htk] at h hl0 ⊢
   have HT := Lib.hid (show nints (Sg.dl H ++ Sg.tail3 (Sg.lack (Sg.dl H))) = nints (Sg.dl H) ++ [.int .i64 ((Sg.lack (Sg.dl H) / 256 : Nat) : Int), .int .i64 ((Sg.lack (Sg.dl H) / 16 % 16 : Nat) : Int), .int .i64 ((Sg.lack (Sg.dl H) % 16 : Nat) : Int)] by unfold nints; rw [List.map_append]; rfl)
   obtain ⟨l, hlD⟩ : ∃ l, Sg.lack (Sg.dl H) = l := ⟨_, rfl⟩
   rw [hlD] at hl0 HT ⊢
   have HLD := Lib.hid hlD
   have b1 : (64 + 3) * 8 ≤ 140737488355328 := by omega
   have b2 : 64 + 3 ≤ maxLen := by unfold maxLen; omega
   have e1 : (l : Int).tdiv 256 = ((l / 256 : Nat) : Int) := by rw [Int.tdiv_eq_ediv_of_nonneg (by omega)]; omega
   have e2 : (l : Int).tdiv 16 = ((l / 16 : Nat) : Int) := by rw [Int.tdiv_eq_ediv_of_nonneg (by omega)]; omega
   have e3 : ((l / 16 : Nat) : Int).tmod 16 = ((l / 16 % 16 : Nat) : Int) := by rw [Int.tmod_eq_emod_of_nonneg (by omega)]; omega
   have e4 : (l : Int).tmod 16 = ((l % 16 : Nat) : Int) := by rw [Int.tmod_eq_emod_of_nonneg (by omega)]; omega
   obtain ⟨a, ha⟩ : ∃ a, l / 256 = a := ⟨_, rfl⟩
   obtain ⟨b, hb⟩ : ∃ b, l / 16 % 16 = b := ⟨_, rfl⟩
   obtain ⟨c, hc⟩ : ∃ c, l % 16 = c := ⟨_, rfl⟩
   obtain ⟨d, hd⟩ : ∃ d, l / 16 = d := ⟨_, rfl⟩
   rw [hd] at e2 e3 hb
   rw [hb] at e3
   rw [ha] at e1
   rw [hc] at e4
   have q1 : IntKind.i64.wrap (a : Int) = (a : Int) := by rw [IntKind.wrap_i64]; omega
   have q2 : IntKind.i64.wrap (d : Int) = (d : Int) := by rw [IntKind.wrap_i64]; omega
   have H4 := Lib.hid h
   have HA := Lib.hid (And.intro ha (And.intro hb (And.intro hc hd)))
   have b3 : 64 + 3 ≤ maxLen := b2
   clear h hll hlD ha hb hc hd htk
   go_wp2_with (at_builtin; go_must (refine appendM 125 (H4.out.alloc0 (.cells #[.int .i64 (a : Int), .int .i64 (b : Int), .int .i64 (c : Int)] 3)) Tryz.underlying125 info_int rfl (by decide) rfl _ _ rfl rfl ⟨wr.heap.size, 0, none⟩ 3 3 [.int .i64 (a : Int), .int .i64 (b : Int), .int .i64 (c : Int)] rfl rfl (new_row wr #[.int .i64 (a : Int), .int .i64 (b : Int), .int .i64 (c : Int)] 3) (by intro u hu; simp at hu; rcases hu with rfl | rfl | rfl <;> rfl) b2 b1 ?_); intro v8 w8 h8)
   obtain ⟨A1, c1, rfl, hc1, hm1⟩ := own_form h8.own
   have H8 := Lib.hid h8
   clear h8
   go_ret
   refine ⟨A1, c1, rfl, hc1, hm1, ?_⟩
   rw [HLD.out, HT.out, HA.out.1, HA.out.2.2.2, HA.out.2.1, HA.out.2.2.1]
   exact H8.out
end Go.Proofs.YtjjpdnpbhdcpbaaGreat
namespace Go.Proofs.YtjjpdnpbhdcpbaaGreat
set_option linter.unusedVariables false
open Go.RowKit
attribute [local go_sem] Oper.semAt_some
set_option maxRecDepth 20000 in
set_option maxHeartbeats 2000000 in
theorem rheaded_spec (o : Sg.Str) (n : Int) (r : Sg.Str) (w : World) :
 Calls Tryz.prog 54 #[.agg #[.string ⟨o.toArray⟩, .int .i64 n, .string ⟨r.toArray⟩]] w fun e w' => e = .returned (.bool (headB o n r)) ∧ Below w.heap.size w w' := by
 have z1 := bytes_size o
 have z2 := bytes_size r
 have b0 := (Below.refl _ w).alloc (Nat.le_refl _) (.cells #[.string ⟨o.toArray⟩, .int .i64 n, .string ⟨r.toArray⟩] 25)
 have HB := Lib.hid b0
 clear b0
 have kd := fun W => rdigest_spec r W
 unfold headB
 by_cases c0 : 1 ≤ o.length
 ·rw [decide_eq_true c0]
  have d00 : decide ((o.length : Int) ≥ 1) = true := decide_eq_true (by omega)
  have d01 : decide (1 ≤ (o.length : Int)) = true := decide_eq_true (by omega)
  have d02 : decide (1 ≤ o.length) = true := decide_eq_true (by omega)
  have d03 : decide (0 < o.length) = true := decide_eq_true (by omega)
  clear c0
  by_cases c1 : o.length ≤ 64
  ·rw [decide_eq_true c1]
   have d10 : decide ((o.length : Int) ≤ 64) = true := decide_eq_true (by omega)
   have d11 : decide (o.length ≤ 64) = true := decide_eq_true (by omega)
   clear c1
   by_cases c2 : 0 ≤ n
   ·rw [decide_eq_true c2]
    have d20 : decide (n ≥ 0) = true := decide_eq_true (by omega)
    have d21 : decide (0 ≤ n) = true := decide_eq_true (by omega)
    clear c2
    by_cases c3 : n ≤ 4096
    ·rw [decide_eq_true c3]
     have d30 : decide (n ≤ 4096) = true := decide_eq_true (by omega)
     clear c3
     go_enter Tryz.func54, Tryz.ntmps54
     go_wp2_with fail
     refine (kd _).mono ?_
     rintro e w1 ⟨rfl, rfl⟩
     go_wp2
     go_ret
     exact ⟨rfl, HB.out⟩
    ·rw [decide_eq_false c3]
     have d30 : decide (n ≤ 4096) = false := decide_eq_false (by omega)
     clear c3
     go_enter Tryz.func54, Tryz.ntmps54
     go_wp2
     go_ret
     exact ⟨rfl, HB.out⟩
   ·rw [decide_eq_false c2]
    have d20 : decide (n ≥ 0) = false := decide_eq_false (by omega)
    have d21 : decide (0 ≤ n) = false := decide_eq_false (by omega)
    clear c2
    go_enter Tryz.func54, Tryz.ntmps54
    go_wp2
    go_ret
    exact ⟨rfl, HB.out⟩
  ·rw [decide_eq_false c1]
   have d10 : decide ((o.length : Int) ≤ 64) = false := decide_eq_false (by omega)
   have d11 : decide (o.length ≤ 64) = false := decide_eq_false (by omega)
   clear c1
   go_enter Tryz.func54, Tryz.ntmps54
   go_wp2
   go_ret
   exact ⟨rfl, HB.out⟩
 ·rw [decide_eq_false c0]
  have d00 : decide ((o.length : Int) ≥ 1) = false := decide_eq_false (by omega)
  have d01 : decide (1 ≤ (o.length : Int)) = false := decide_eq_false (by omega)
  have d02 : decide (1 ≤ o.length) = false := decide_eq_false (by omega)
  have d03 : decide (0 < o.length) = false := decide_eq_false (by omega)
  clear c0
  go_enter Tryz.func54, Tryz.ntmps54
  go_wp2
  go_ret
  exact ⟨rfl, HB.out⟩
set_option maxRecDepth 20000 in
theorem rcknum_spec (n : Nat) (h : n < 9223372036854775808) (w : World) : Calls Tryz.prog 71 #[.int .i64 (n : Int)] w fun e w' => e = .returned (.string ⟨(Cd.uns n).toArray⟩) ∧ Below w.heap.size w w' := by
 have k := ruint_pos n h w
 clear h
 go_enter Tryz.func71, Tryz.ntmps71
 go_wp2_with fail
 refine k.mono ?_
 rintro e w1 ⟨rfl, b1⟩
 go_wp2
 go_ret
 exact ⟨rfl, b1⟩
set_option maxRecDepth 20000 in
set_option maxHeartbeats 2000000 in
theorem rckbytes_spec (o : Sg.Str) (n : Int) (r : Sg.Str) (w : World) (h : headB o n r = true) :
 Calls Tryz.prog 56 #[.agg #[.string ⟨o.toArray⟩, .int .i64 n, .string ⟨r.toArray⟩]] w fun e w' => e = .returned (.string ⟨(headS o n r).toArray⟩) ∧ Below w.heap.size w w' := by
 obtain ⟨_, h2, h3, h4, h5⟩ := headB_parts h
 obtain ⟨q, rfl⟩ : ∃ q : Nat, n = q := ⟨n.toNat, by omega⟩
 have kO := fun W => text_ref o (Nat.le_trans h2 (by decide)) W
 have kR := fun W => text_ref r (by rw [h5]; decide) W
 have kN := fun W => rcknum_spec q (by omega) W
 have l1 : (Cd.text o).length ≤ 80 := by have := Cd.uns_len o.length; unfold Cd.text; rw [List.length_append]; omega
 have l2 := Cd.uns_len q
 have l3 : (Cd.text r).length ≤ 50 := by have := Cd.uns_len r.length; unfold Cd.text; rw [List.length_append]; omega
 have hs : headS o (q : Int) r = Cd.text o ++ Cd.uns q ++ Cd.text r := by unfold headS; rw [Int.toNat_natCast]
 rw [hs]
 generalize Cd.text o = O at kO l1
 generalize Cd.text r = R at kR l3
 generalize Cd.uns q = U at kN l2
 have g1 := bytes_append O U
 have g2 := bytes_append (O ++ U) R
 obtain ⟨f1, f2⟩ := sg_cat O U (by omega)
 obtain ⟨f3, f4⟩ := sg_cat (O ++ U) R (by rw [List.length_append]; omega)
 simp only [List.length_append] at f3 f4
 have bk := Blk.new w 25 #[.string ⟨o.toArray⟩, .int .i64 (q : Int), .string ⟨r.toArray⟩]
 have b0 := (Below.refl _ w).alloc (Nat.le_refl _) (.cells #[.string ⟨o.toArray⟩, .int .i64 (q : Int), .string ⟨r.toArray⟩] 25)
 obtain ⟨W0, hW0⟩ : ∃ W0, w.alloc (.cells #[.string ⟨o.toArray⟩, .int .i64 (q : Int), .string ⟨r.toArray⟩] 25) = W0 := ⟨_, rfl⟩
 rw [hW0] at bk b0
 have HB := Lib.hid b0
 have HS := Lib.hid (show ∀ W, Below W0.heap.size W0 W → (W.cell? ⟨w.heap.size, 0, none⟩ = some (.string ⟨o.toArray⟩) ∧ W.cell? ⟨w.heap.size, 1, none⟩ = some (.int .i64 (q : Int)) ∧ W.cell? ⟨w.heap.size, 2, none⟩ = some (.string ⟨r.toArray⟩)) from fun W hb => ⟨(bk.below hb).cell 0, (bk.below hb).cell 1, (bk.below hb).cell 2⟩)
 have y0 := (Below.refl W0.heap.size W0).drew
 clear h h2 h3 h4 h5 bk b0 hs l1 l2 l3
 go_enter Tryz.func56, Tryz.ntmps56
 go_wp2_with fail
 clear hW0
 refine wp_region_noPanic ?_
 refine wp_region_held_drew (S := (fun w' => w'.cell? ⟨w.heap.size, 0, none⟩ = some (.string ⟨o.toArray⟩) ∧ w'.cell? ⟨w.heap.size, 1, none⟩ = some (.int .i64 (q : Int)) ∧ w'.cell? ⟨w.heap.size, 2, none⟩ = some (.string ⟨r.toArray⟩))) (by kernel_rfl) ?_ (fun hH0 => ?_)
 ·exact HS.out _ y0
 refine tk 0 3 hH0 ?_
 refine tk 1 4 hH0 ?_
 refine tk 3 6 hH0 ?_
 refine tk 4 7 hH0 ?_
 refine tk 7 10 hH0 ?_
 refine tk 8 11 hH0 ?_
 refine rdy [2] ?_
 refine an 5 fun K hK => ?_
 go_simp; (
  with_reducible refine (kO _).mono ?_
  rintro e w1 ⟨rfl, b1⟩
  have y1 := y0.trans (b1.mono y0.size)); go_wp2_with fail
 refine hK.out _ _ ?_ (fun hH1 => ?_)
 ·exact HS.out _ y1
 clear hK K hH0
 try simp only [pu]
 refine rdy [5] ?_
 refine an 8 fun K hK => ?_
 go_simp; (
  with_reducible refine (kN _).mono ?_
  rintro e w2 ⟨rfl, b2⟩
  have y2 := y1.trans (b2.mono y1.size)); go_wp2_with fail
 refine hK.out _ _ ?_ (fun hH2 => ?_)
 ·exact HS.out _ y2
 clear hK K hH1
 try simp only [pu]
 refine tk 6 9 hH2 ?_
 refine rdy [9] ?_
 refine an 12 fun K hK => ?_
 go_simp; (
  with_reducible refine (kR _).mono ?_
  rintro e w3 ⟨rfl, b3⟩
  have y3 := y2.trans (b3.mono y2.size)); go_wp2_with fail
 refine hK.out _ _ ?_ (fun hH3 => ?_)
 ·exact HS.out _ y3
 clear hK K hH2
 try simp only [pu]
 refine tk 10 13 hH3 ?_
 refine tk 11 2 hH3 ?_
 refine dn ?_ _
 all_goals (refine NoPanic.normal ?_)
 go_wp2
 go_ret
 refine ⟨?_, HB.out.trans (y3.mono HB.out.size)⟩
 first
  | rfl
  | (rw [List.append_assoc]; rfl)
end Go.Proofs.YtjjpdnpbhdcpbaaGreat
namespace Go.Proofs.YtjjpdnpbhdcpbaaGreat
set_option linter.unusedVariables false
open Go.RowKit Go.Shelf
attribute [local go_sem] Oper.semAt_some
theorem vpub_spec (pub : Sg.Str) (w : World) : Calls Tryz.prog 60 #[.string ⟨pub.toArray⟩] w fun e w' => e = .returned (.bool (vpB pub)) ∧ w = w' := by
 have hp := bytes_size pub
 unfold vpB
 by_cases c1 : pub.length = 33
 ·rw [if_pos c1]
  rw [c1] at hp
  have hx : ∀ hh, ((⟨pub.toArray⟩ : ByteArray)[32]'hh).toNat = (pub.getD 32 0).toNat := fun hh => by
   have h0 : 32 < pub.length := by omega
   rw [at_byte pub 32 h0 hh, List.getD_eq_getElem?_getD, List.getElem?_eq_getElem h0]
   rfl
  have hlt := (pub.getD 32 0).toNat_lt
  obtain ⟨x, hxx⟩ : ∃ x, (pub.getD 32 0).toNat = x := ⟨_, rfl⟩
  rw [hxx] at hx hlt ⊢
  have e8 : wrap64 (x : Int) = (x : Int) := IntWalk.wrap64_in _ (by omega)
  have e9 : IntKind.i64.wrap (x : Int) = (x : Int) := by rw [IntKind.wrap_i64]; omega
  have hi : decide ((x : Int) ≤ 6) = decide (x ≤ 6) := by by_cases h : x ≤ 6 <;> simp [h] <;> omega
  clear hxx
  go_enter Tryz.func60, Tryz.ntmps60
  go_wp2
  go_ret
  refine ⟨ret_eq ?_, rfl⟩
  rw [← hi]
  simp
 ·rw [if_neg c1]
  have g1 : ((pub.length : Int) == 33) = false := by rw [beq_eq_false_iff_ne]; omega
  have g2 : ¬ ((pub.length : Int) = 33) := by omega
  go_enter Tryz.func60, Tryz.ntmps60
  go_wp2
  go_ret
  exact ⟨rfl, rfl⟩
theorem own_block {w : World} {base : Nat} {e : TypeId} {size n l c : Nat} {A : Option Addr} {xs : List Value} (h : w.ownsRow base e size (.slice A l c) n xs) (hn : 0 < n) : ∃ g, A = some ⟨g, 0, none⟩ ∧ g < w.heap.size := by
 rcases h.2 with ⟨h2, h3⟩ | ⟨g, cap, cur, hv, _, hg, _⟩
 ·omega
 ·injection hv with hv _ _
  exact ⟨g, hv, (Array.getElem?_eq_some_iff.1 hg).1⟩
end Go.Proofs.YtjjpdnpbhdcpbaaGreat
namespace Go.Proofs.YtjjpdnpbhdcpbaaGreat
set_option linter.unusedVariables false
open Go.ChangeShapes hiding strs
open Go.WideShapes Go.ChangeAt Go.RowKit
theorem own_knob : ownKnob Tryz.prog.godebug = none := by kernel_rfl
theorem laid_out : laidOutB Tryz.prog = true := by kernel_rfl
theorem below_trodAll {H : Type} {enc : TypeId × Value → H} {P : Program} (hl : laidOutB P = true) {W W' : World} (hb : Below W.heap.size W W') :
 ∀ {ts : List TypeId} {vs : List Value} {ds : List (DataW H)} {ps : List MemPlace}, (∀ t ∈ ts, P.readableRec t = true ∧ t < P.types.size) →
   DataW.TrodAll enc P W 0 (fun _ => true) true ts vs ds ps → DataW.TrodAll enc P W' 0 (fun b => decide (b < W.heap.size)) true ts vs ds ps
 | [], [], [], _, _, h => h
 | [], [], _ :: _, _, _, h => h.elim
 | [], _ :: _, _, _, _, h => h.elim
 | _ :: _, [], _, _, _, h => h.elim
 | _ :: _, _ :: _, [], _, _, h => h.elim
 | t :: ts, v :: vs, d :: ds, ps, hr, h => by
   obtain ⟨p, q, h1, h2, rfl⟩ := h
   have hlt : ∀ x ∈ p, x.block < W.heap.size := by obtain ⟨m, hm⟩ := h1; exact DataW.trod_lt m _ _ _ hm
   exact ⟨p, q, Below.trod hl (hr t (by simp)).1 (hr t (by simp)).2 h1 hb hlt, below_trodAll hl hb (fun t' ht' => hr t' (by simp [ht'])) h2, rfl⟩
theorem law_post {H : Type} {enc : TypeId × Value → H} {P : Program} {f : Func} {s : ChangeSpec} {W W' : World} {args : Array Value} {ds gs : List (DataW H)} {before : List MemPlace} {tb : TypeId}
 (hl : laidOutB P = true) (hr' : (f.params.toList.all fun t => P.readableRec t && decide (t < P.types.size)) = true) (hrt : f.resultTypes = #[tb]) (htb : P.underlying tb = some .bool)
 (hv : s.vars = []) (hW : DataW.Whole enc P f.params.toList s.vars false W args.toList ds gs before)
 (h1 : (s.fn H (ds ++ gs)).results = [.lit (.bool true)]) (h2 : (s.fn H (ds ++ gs)).args = ds) (h3 : (s.fn H (ds ++ gs)).vars = []) (hb : Below W.heap.size W W') :
 s.post enc P f false true false false W args (.bool true) W' := by
 have hr : ∀ t ∈ f.params.toList, P.readableRec t = true ∧ t < P.types.size := fun t ht => by simpa using List.all_eq_true.1 hr' t ht
 have hW' := hW
 obtain ⟨p, q, hA, hV, rfl, hfz, hnd⟩ := hW
 refine ⟨ds, gs, _, [], p, [], hW', ?_, ?_, ?_, hb.frame _, fun h => by cases h⟩
 ·rw [hrt, h1]
  exact trodAll_cons_mk (shut_bool htb true) trodAll_mk0
 ·rw [h2]
  exact below_trodAll hl hb hr hA
 ·rw [h3, hv]
  rfl
theorem open_bytes {H : Type} {enc : TypeId × Value → H} {P : Program} {t : TypeId} {W : World} {base : Nat} {v : Value} {d : DataW H} {p : List MemPlace}
 (ht : P.underlying t = some .string) (hok : Value.okWide P W .any base t v) (h : DataW.Trod enc P W 0 (fun _ => true) true t v d p) :
 ∃ l : List UInt8, v = .string ⟨l.toArray⟩ ∧ d = .lit (.string l) ∧ l.length ≤ maxLen := by
 obtain ⟨s, rfl, rfl, rfl, hm⟩ := ChangeMaps.open_string ht hok h
 exact ⟨s.data.toList, by simp, rfl, by rw [Array.length_toList]; exact hm⟩
theorem open_skey {H : Type} {enc : TypeId × Value → H} {P : Program} {t ti ts : TypeId} {f0 f1 f2 : Field} {W : World} {base : Nat} {v : Value} {d : DataW H} {p : List MemPlace}
 (hs : P.underlying t = some (.struct #[f0, f1, f2])) (hone : Deep.oneCellFields P #[f0, f1, f2] = true) (hC : P.cellsOf t = 3) (h0 : f0.type = ts) (h1 : f1.type = ti) (h2 : f2.type = ti) (hti : P.underlying ti = some (.int .i64)) (hts : P.underlying ts = some .string)
 (hv : Value.okWide P W .any base t v) (h : DataW.Trod enc P W 0 (fun _ => true) true t v d p) :
 ∃ (s : List UInt8) (a b : Int), v = .agg #[.string ⟨s.toArray⟩, .int .i64 a, .int .i64 b] := by
 obtain ⟨v0, v1, v2, y0, y1, y2, n, rfl, rfl, _, t0, t1, t2⟩ := Joins.open_agg3 hs hone hC hv h
 rw [h0] at t0
 rw [h1] at t1
 rw [h2] at t2
 obtain ⟨s, hz0, _, _⟩ := DataW.trod_string hts t0
 obtain ⟨a, hz1, _, _⟩ := DataW.trod_int hti t1
 obtain ⟨b, hz2, _, _⟩ := DataW.trod_int hti t2
 simp at hz0 hz1 hz2
 subst hz0 hz1 hz2
 exact ⟨s.data.toList, a, b, by simp⟩
theorem open_head {H : Type} {enc : TypeId × Value → H} {P : Program} {t ti ts : TypeId} {f0 f1 f2 : Field} {W : World} {base : Nat} {v : Value} {d : DataW H} {p : List MemPlace}
 (hs : P.underlying t = some (.struct #[f0, f1, f2])) (hone : Deep.oneCellFields P #[f0, f1, f2] = true) (hC : P.cellsOf t = 3) (h0 : f0.type = ts) (h1 : f1.type = ti) (h2 : f2.type = ts) (hti : P.underlying ti = some (.int .i64)) (hts : P.underlying ts = some .string)
 (hv : Value.okWide P W .any base t v) (h : DataW.Trod enc P W 0 (fun _ => true) true t v d p) :
 ∃ (s : List UInt8) (a : Int) (r : List UInt8), v = .agg #[.string ⟨s.toArray⟩, .int .i64 a, .string ⟨r.toArray⟩] := by
 obtain ⟨v0, v1, v2, y0, y1, y2, n, rfl, rfl, _, t0, t1, t2⟩ := Joins.open_agg3 hs hone hC hv h
 rw [h0] at t0
 rw [h1] at t1
 rw [h2] at t2
 obtain ⟨s, hz0, _, _⟩ := DataW.trod_string hts t0
 obtain ⟨a, hz1, _, _⟩ := DataW.trod_int hti t1
 obtain ⟨r, hz2, _, _⟩ := DataW.trod_string hts t2
 simp at hz0 hz1 hz2
 subst hz0 hz1 hz2
 exact ⟨s.data.toList, a, r.data.toList, by simp⟩
end Go.Proofs.YtjjpdnpbhdcpbaaGreat
