/- Lemmas and contracts on what the walks need, several small texts in one. Conditions: as each theorem states. -/
import Derived.Test.YtjjpdnpbhdcpbaaGreatQBase
import Derived.WalkKit
import Derived.WalkSpells
import Derived.WalkLawsBesides
import Derived.Lib.Hide
import Derived.RegionTactic
import Derived.Deep.Draws
import Derived.Deep.QuietTactic
import Derived.BigQuiet
import Derived.Deep.LoopGhost
import Derived.Deep.DeepFit
import Derived.Deep.DeepCutAuto
import Derived.Maps.AppendAt
import Derived.Deep.RegionHeld3
import Derived.Deep.MidRow
import Derived.Deep.AppendLies
import Derived.Test.YtjjpdnpbhdcpbaaGreatProg
import Derived.Test.YtjjpdnpbhdcpbaaGreatQPa
import Derived.Test.YtjjpdnpbhdcpbaaGreatQMkA
import Derived.Test.YtjjpdnpbhdcpbaaGreatLayJ
import Derived.Test.YtjjpdnpbhdcpbaaGreatQShaA
import Derived.Laws.BitsAllLaws
import Derived.BigRegion
import Derived.Test.YtjjpdnpbhdcpbaaGreatLayC
import Derived.Test.YtjjpdnpbhdcpbaaGreatLay
import Derived.Test.YtjjpdnpbhdcpbaaGreatQShaB
import Derived.Laws.CopyRow
import Derived.Laws.IdiomStrings
import Derived.Lib.Bytealg
import Derived.Laws.MakeOwn
import Derived.Test.YtjjpdnpbhdcpbaaGreatLayL
import Derived.Test.YtjjpdnpbhdcpbaaGreatQCdA
import Derived.Lib.Builder
import Derived.Lib.UnsafeStr
import Derived.Lib.AppendStr
import Derived.Lib.FrozenHead
import Derived.Test.YtjjpdnpbhdcpbaaGreatQMkB
import Derived.StillTailTactics
import Derived.Test.YtjjpdnpbhdcpbaaGreatQPc
import Derived.Test.YtjjpdnpbhdcpbaaGreatQSgL
import Derived.Test.YtjjpdnpbhdcpbaaGreatQPb
import Derived.Test.YtjjpdnpbhdcpbaaGreatQSgJ
import Derived.Test.YtjjpdnpbhdcpbaaGreatQSgI
import Derived.Test.YtjjpdnpbhdcpbaaGreatQSgH
import Derived.Test.YtjjpdnpbhdcpbaaGreatQSgG
import Derived.Test.YtjjpdnpbhdcpbaaGreatQSgF
import Derived.Test.YtjjpdnpbhdcpbaaGreatLayR
import Derived.Lib.OthersKept
import Derived.Test.YtjjpdnpbhdcpbaaGreatQSgD
import Derived.RangeFuncNested
import Derived.RangeFuncBound
import Derived.RangeFuncCalls
import Derived.RangeFuncLeaves
import Derived.Shelf.Abstract
import Derived.Shelf.RegionOpen
import Derived.OwnWalkIn
import Derived.TacticsInMore
import Derived.LoopNIn
import Derived.LoopIn
import Derived.Lib.FrozenHead2
import Derived.OrdersIn
import Derived.RangeFuncFrom
import Derived.Laws.ResultCell
import Derived.Test.YtjjpdnpbhdcpbaaGreatQCdB
import Derived.Laws.DeepNot64
import Derived.Test.YtjjpdnpbhdcpbaaGreatRows
import Derived.ProofKit
import Derived.OpenShut
import Derived.JoinedCond
import Derived.ShutString
import Derived.ChangeOld
import Derived.Deep.RegionLaw
import Derived.Lib.SmallJoins
namespace Go.Proofs.YtjjpdnpbhdcpbaaGreat
set_option linter.unusedVariables false
open Go.RowKit
end Go.Proofs.YtjjpdnpbhdcpbaaGreat
namespace Go.Proofs.YtjjpdnpbhdcpbaaGreat
set_option linter.unusedVariables false
open Go.RowKit
end Go.Proofs.YtjjpdnpbhdcpbaaGreat
namespace Go.Proofs.YtjjpdnpbhdcpbaaGreat
set_option linter.unusedVariables false
end Go.Proofs.YtjjpdnpbhdcpbaaGreat
namespace Go.Proofs.YtjjpdnpbhdcpbaaGreat
set_option linter.unusedVariables false
open Go.RowKit
end Go.Proofs.YtjjpdnpbhdcpbaaGreat
namespace Go.Proofs.YtjjpdnpbhdcpbaaGreat
set_option linter.unusedVariables false
open Go.RowKit
end Go.Proofs.YtjjpdnpbhdcpbaaGreat
namespace Go.Proofs.YtjjpdnpbhdcpbaaGreat
set_option linter.unusedVariables false
open Go.RowKit
end Go.Proofs.YtjjpdnpbhdcpbaaGreat
namespace Go.Proofs.YtjjpdnpbhdcpbaaGreat
set_option linter.unusedVariables false
open Go.RowKit
theorem weight_take (L : List (List UInt8)) (k : Nat) (h : k < L.length) : ((L.take (k + 1)).map List.length).sum = ((L.take k).map List.length).sum + L[k].length := by
 rw [List.take_succ_eq_append_getElem h, List.map_append, List.sum_append]
 simp only [List.map_cons, List.map_nil, List.sum_cons, List.sum_nil, Nat.add_zero]
theorem weight_take_le (L : List (List UInt8)) (k : Nat) : ((L.take k).map List.length).sum ≤ (L.map List.length).sum := by
 have : (L.map List.length).sum = ((L.take k).map List.length).sum + ((L.drop k).map List.length).sum := by
  rw [← List.sum_append, ← List.map_append, List.take_append_drop]
 omega
end Go.Proofs.YtjjpdnpbhdcpbaaGreat
namespace Go.Proofs.YtjjpdnpbhdcpbaaGreat
set_option linter.unusedVariables false
open Go.RowKit
theorem strs_one (L : List (List UInt8)) : ∀ u ∈ strs L, u.oneCell' = true := by
 intro u hu
 obtain ⟨s, _, rfl⟩ := List.mem_map.1 hu
 rfl
end Go.Proofs.YtjjpdnpbhdcpbaaGreat
namespace Go.Proofs.YtjjpdnpbhdcpbaaGreat
set_option linter.unusedVariables false
open Go.RowKit
end Go.Proofs.YtjjpdnpbhdcpbaaGreat
namespace Go.Proofs.YtjjpdnpbhdcpbaaGreat
theorem bk4 {w : World} {g : Nat} {t : TypeId} {cs : Array Value} (h : Blk w g t cs) : w.cell? ⟨g, 0, none⟩ = cs[0]? ∧ w.frozen? ⟨g, 0, none⟩ = false ∧ w.cell? ⟨g, 1, none⟩ = cs[1]? ∧ w.frozen? ⟨g, 1, none⟩ = false ∧ w.cell? ⟨g, 2, none⟩ = cs[2]? ∧ w.frozen? ⟨g, 2, none⟩ = false ∧ w.cell? ⟨g, 3, none⟩ = cs[3]? ∧ w.frozen? ⟨g, 3, none⟩ = false := ⟨h.cell 0, h.frozen 0, h.cell 1, h.frozen 1, h.cell 2, h.frozen 2, h.cell 3, h.frozen 3⟩
theorem bk8 {w : World} {g : Nat} {t : TypeId} {cs : Array Value} (h : Blk w g t cs) : w.cell? ⟨g, 0, none⟩ = cs[0]? ∧ w.frozen? ⟨g, 0, none⟩ = false ∧ w.cell? ⟨g, 1, none⟩ = cs[1]? ∧ w.frozen? ⟨g, 1, none⟩ = false ∧ w.cell? ⟨g, 2, none⟩ = cs[2]? ∧ w.frozen? ⟨g, 2, none⟩ = false ∧ w.cell? ⟨g, 3, none⟩ = cs[3]? ∧ w.frozen? ⟨g, 3, none⟩ = false ∧ w.cell? ⟨g, 4, none⟩ = cs[4]? ∧ w.frozen? ⟨g, 4, none⟩ = false ∧ w.cell? ⟨g, 5, none⟩ = cs[5]? ∧ w.frozen? ⟨g, 5, none⟩ = false ∧ w.cell? ⟨g, 6, none⟩ = cs[6]? ∧ w.frozen? ⟨g, 6, none⟩ = false ∧ w.cell? ⟨g, 7, none⟩ = cs[7]? ∧ w.frozen? ⟨g, 7, none⟩ = false := ⟨h.cell 0, h.frozen 0, h.cell 1, h.frozen 1, h.cell 2, h.frozen 2, h.cell 3, h.frozen 3, h.cell 4, h.frozen 4, h.cell 5, h.frozen 5, h.cell 6, h.frozen 6, h.cell 7, h.frozen 7⟩
end Go.Proofs.YtjjpdnpbhdcpbaaGreat
namespace Go.Proofs.YtjjpdnpbhdcpbaaGreat
set_option linter.unusedVariables false
open Go.RowKit Go.Shelf
end Go.Proofs.YtjjpdnpbhdcpbaaGreat
namespace Go.Proofs.YtjjpdnpbhdcpbaaGreat.Mk
set_option linter.unusedVariables false
theorem node_nil_left (r : Str) : node [] r = [] := by unfold node; rw [if_neg (by simp)]
theorem node_nil_right (l : Str) : node l [] = [] := by unfold node; rw [if_neg (by simp)]
theorem given_ok : ∀ (n : Nat) (x : Str) (i : Nat) (P : List Str), (given x i n P).2 = decide (P.length = depth i n) := by
 intro n
 induction n using Nat.strongRecOn with
 | _ n ih =>
   intro x i P
   by_cases h2 : n < 2
   ·rw [given_one _ _ _ _ h2, depth_one i n h2]
    cases P <;> simp
   ·have h3 := split_lt (n := n) (by omega)
    have h4 := split_pos n
    rcases snoc_cases P with rfl | ⟨Q, q, rfl⟩
    ·rw [given_nil _ _ _ (by omega)]
     by_cases hk : i < split n
     ·rw [depth_left i n (by omega) hk]; simp
     ·rw [depth_right i n (by omega) hk]; simp
    ·by_cases hk : i < split n
     ·rw [given_left _ _ _ _ _ (by omega) hk, depth_left i n (by omega) hk]
      show (given x i (split n) Q).2 = _
      rw [ih (split n) h3]
      simp
     ·rw [given_right _ _ _ _ _ (by omega) hk, depth_right i n (by omega) hk]
      show (given x (i - split n) (n - split n) Q).2 = _
      rw [ih (n - split n) (by omega)]
      simp
end Go.Proofs.YtjjpdnpbhdcpbaaGreat.Mk
namespace Go.Proofs.YtjjpdnpbhdcpbaaGreat.Mk
set_option linter.unusedVariables false
end Go.Proofs.YtjjpdnpbhdcpbaaGreat.Mk
namespace Go.Proofs.YtjjpdnpbhdcpbaaGreat
set_option linter.unusedVariables false
open Go.RowKit Go.Shelf
end Go.Proofs.YtjjpdnpbhdcpbaaGreat
namespace Go.Proofs.YtjjpdnpbhdcpbaaGreat
set_option linter.unusedVariables false
open Go.RowKit
end Go.Proofs.YtjjpdnpbhdcpbaaGreat
namespace Go.Proofs.YtjjpdnpbhdcpbaaGreat
set_option linter.unusedVariables false
open Go.RowKit
set_option maxRecDepth 20000 in
set_option maxHeartbeats 4000000 in
theorem rincl_spec : ∀ (n : Nat) (A : Option Addr) (L : List Mk.Str) (i c : Nat) (w : World), L.length ≤ n → n ≤ 1099511627776 → Rd w A (strs L) → L.length ≤ c → c ≤ maxLen → i < L.length →
 Calls Tryz.prog 151 #[.slice A L.length c, .int .i64 (i : Int)] w fun e w' => ∃ v, e = .returned v ∧ St w.heap.size w w' [ownR 9 1 v (Mk.incl L i).length (strs (Mk.incl L i))] := by
 intro n
 induction n with
 | zero => intro A L i c w hl hn hR hc hm hi; omega
 | succ n ih =>
   intro A L i c w hl hn hR hc hm hi
   by_cases h2 : L.length < 2
   ·have h1 : L.length = 1 := by omega
    rw [Mk.incl_one L i h2, h1]
    clear hl h2 hR hc hi h1
    go_enter Tryz.func151, Tryz.ntmps151
    go_wp2
    go_ret
    exact ⟨_, rfl, (St.nil w).new_own (Below.refl _ w) (World.ownsRow_nil _ _ _ _)⟩
   ·obtain ⟨b, off, hA, _⟩ := hR.str (k := 0) (by omega)
    subst hA
    have hk0 := Mk.split_pos L.length
    have hk1 := Mk.split_lt (n := L.length) (by omega)
    have ks := fun W => rsplit_spec L.length (by omega) (by omega) W
    obtain ⟨k, hk⟩ : ∃ k, Mk.split L.length = k := ⟨_, rfl⟩
    have ht := rd_take hR k
    have hd := rd_drop hR k
    have lt : k ≤ L.length → (L.take k).length = k := fun h => by rw [List.length_take]; omega
    have ld : (L.drop k).length = L.length - k := List.length_drop
    by_cases hik : i < k
    ·rw [hk] at hk0 hk1 ks
     have k1 := fun (W : World) (hb : Below w.heap.size w W) => ih (some ⟨b, off, none⟩) (L.take k) i c W (by rw [lt (by omega)]; omega) (by omega) (ht.below hb) (by rw [lt (by omega)]; omega) hm (by rw [lt (by omega)]; omega)
     have k2 := fun (W : World) (hb : Below w.heap.size w W) => rroot_spec (L.length) (some ⟨b, off + k, none⟩) (L.drop k) (c - k) W (by omega) (by omega) (hd.below hb) (by omega) (by unfold maxLen at hm ⊢; omega)
     have hin := Mk.incl_left L i (by omega) (by rw [hk]; exact hik)
     have hml := Mk.incl_length _ (L.take k) i rfl
     have hmd := Mk.depth_le i (L.take k).length
     rw [lt (by omega)] at k1 hml hmd
     rw [ld] at k2
     rw [hk] at hin
     have HN := Lib.hid hin
     generalize Mk.incl (L.take k) i = M at k1 HN hml
     generalize Mk.root (L.drop k) = R at k2 HN
     obtain ⟨N, hN⟩ : ∃ N, L.length = N := ⟨_, rfl⟩
     rw [hN] at hl hc h2 hk1 ks hi k2 ⊢
     have hM : M.length ≤ N := by omega
     have q2 : M.length + 1 ≤ maxLen := by unfold maxLen; omega
     have q1 : (M.length + 1) * 16 ≤ 140737488355328 := by omega
     obtain ⟨mm, hmm⟩ : ∃ mm, M.length = mm := ⟨_, rfl⟩
     have HM := Lib.hid (show (mm + 1 : Nat) = M.length + 1 by rw [hmm])
     have HX := Lib.hid (And.intro hN (And.intro hk (And.intro hR (And.intro ht hd))))
     clear hN hk hR ht hd lt ld ih hin hml hmd hM hmm
     have i0 : ((N : Int) == 1) = false := by rw [beq_eq_false_iff_ne]; omega
     have i2 : (0 : Int) ≤ (k : Int) := by omega
     have i3 : (k : Int) ≤ (N : Int) := by omega
     have i4 : (k : Int) ≤ (c : Int) := by omega
     have i5 : (N : Int) ≤ (c : Int) := by omega
     have i6 : ¬ (k = c) := by omega
     have i7 : ((N - k : Nat) : Int) = (N : Int) - (k : Int) := by omega
     have i8 : ((c - k : Nat) : Int) = (c : Int) - (k : Int) := by omega
     have i9 : ¬ (c = k) := by omega
     have g1 : decide ((i : Int) < (k : Int)) = true := by simp; omega
     unfold maxLen at hm
     go_enter Tryz.func151, Tryz.ntmps151
     go_wp2_with (first
      | ((with_reducible refine (ks _).mono ?_); rintro e w1 ⟨rfl, rfl⟩)
      | fail)
     have b0 : Below w.heap.size w w.drew := (Below.refl _ w).drew
     have s0 : St w.heap.size w w.drew [] := (St.nil w).drew
     go_region_held3 (fun w' => w.heap.size ≤ w'.heap.size)
      (first
        | exact Nat.le_refl _
        | exact h8.size
        | exact (h2.alloc0 _).size
        | exact h2.size
        | exact h1.size
        | fail)
      (first
        | (with_reducible refine (k1 _ b0).mono ?_
           rintro e w1 ⟨v1, rfl, t1⟩
           have h1 := s0.join t1)
        | (with_reducible refine (k2 _ h1.below).mono ?_
           rintro e w2 ⟨rfl, c2⟩
           have h2 := h1.under c2)
        | (refine stepA 27 (te := 9) (u := .string ⟨R.toArray⟩) h2 Tryz.underlying27 info_str rfl _ _ (by rfl) (by rfl) (by rfl) (by rfl) rfl q2 q1 ?_
           intro gg cap w5 h8)
        | fail)
     all_goals
      go_wp2
      go_ret
      refine ⟨_, rfl, ?_⟩
      rw [HN.out, strs_append, List.length_append]
      exact h8
    ·rw [hk] at hk0 hk1 ks
     have k1 := fun (W : World) (hb : Below w.heap.size w W) => ih (some ⟨b, off + k, none⟩) (L.drop k) (i - k) (c - k) W (by omega) (by omega) (hd.below hb) (by omega) (by unfold maxLen at hm ⊢; omega) (by omega)
     have k2 := fun (W : World) (hb : Below w.heap.size w W) => rroot_spec (L.length) (some ⟨b, off, none⟩) (L.take k) c W (by rw [lt (by omega)]; omega) (by omega) (ht.below hb) (by rw [lt (by omega)]; omega) hm
     have hin := Mk.incl_right L i (by omega) (by rw [hk]; exact hik)
     have hml := Mk.incl_length _ (L.drop k) (i - k) rfl
     have hmd := Mk.depth_le (i - k) (L.drop k).length
     rw [ld] at k1 hml hmd
     rw [lt (by omega)] at k2
     rw [hk] at hin
     have HN := Lib.hid hin
     have j1 : (i : Int) - (k : Int) = ((i - k : Nat) : Int) := by omega
     generalize i - k = i' at k1 HN hml hmd j1
     generalize Mk.incl (L.drop k) i' = M at k1 HN hml
     generalize Mk.root (L.take k) = R at k2 HN
     obtain ⟨N, hN⟩ : ∃ N, L.length = N := ⟨_, rfl⟩
     rw [hN] at hl hc h2 hk1 ks hi hml hmd k1 ⊢
     have hM : M.length ≤ N := by omega
     have q2 : M.length + 1 ≤ maxLen := by unfold maxLen; omega
     have q1 : (M.length + 1) * 16 ≤ 140737488355328 := by omega
     obtain ⟨mm, hmm⟩ : ∃ mm, M.length = mm := ⟨_, rfl⟩
     have HM := Lib.hid (show (mm + 1 : Nat) = M.length + 1 by rw [hmm])
     have HX := Lib.hid (And.intro hN (And.intro hk (And.intro hR (And.intro ht hd))))
     clear hN hk hR ht hd lt ld ih hin hml hmd hM hmm
     have i0 : ((N : Int) == 1) = false := by rw [beq_eq_false_iff_ne]; omega
     have i2 : (0 : Int) ≤ (k : Int) := by omega
     have i3 : (k : Int) ≤ (N : Int) := by omega
     have i4 : (k : Int) ≤ (c : Int) := by omega
     have i5 : (N : Int) ≤ (c : Int) := by omega
     have i6 : ¬ (k = c) := by omega
     have i7 : ((N - k : Nat) : Int) = (N : Int) - (k : Int) := by omega
     have i8 : ((c - k : Nat) : Int) = (c : Int) - (k : Int) := by omega
     have i9 : ¬ (c = k) := by omega
     have j2 : IntKind.i64.wrap (i' : Int) = (i' : Int) := by rw [IntWalk.i64_left, IntWalk.wrap64_in _ (by omega)]
     have g1 : decide ((i : Int) < (k : Int)) = false := by simp; omega
     unfold maxLen at hm
     go_enter Tryz.func151, Tryz.ntmps151
     go_wp2_with (first
      | ((with_reducible refine (ks _).mono ?_); rintro e w1 ⟨rfl, rfl⟩)
      | fail)
     have b0 : Below w.heap.size w w.drew := (Below.refl _ w).drew
     have s0 : St w.heap.size w w.drew [] := (St.nil w).drew
     go_region_held3 (fun w' => w.heap.size ≤ w'.heap.size)
      (first
        | exact Nat.le_refl _
        | exact h8.size
        | exact (h2.alloc0 _).size
        | exact h2.size
        | exact h1.size
        | fail)
      (first
        | (with_reducible refine (k1 _ b0).mono ?_
           rintro e w1 ⟨v1, rfl, t1⟩
           have h1 := s0.join t1)
        | (with_reducible refine (k2 _ h1.below).mono ?_
           rintro e w2 ⟨rfl, c2⟩
           have h2 := h1.under c2)
        | (refine stepA 27 (te := 9) (u := .string ⟨R.toArray⟩) h2 Tryz.underlying27 info_str rfl _ _ (by rfl) (by rfl) (by rfl) (by rfl) rfl q2 q1 ?_
           intro gg cap w5 h8)
        | fail)
     all_goals
      go_wp2
      go_ret
      refine ⟨_, rfl, ?_⟩
      rw [HN.out, strs_append, List.length_append]
      exact h8
end Go.Proofs.YtjjpdnpbhdcpbaaGreat
namespace Go.Proofs.YtjjpdnpbhdcpbaaGreat
set_option linter.unusedVariables false
namespace Cd
end Cd
end Go.Proofs.YtjjpdnpbhdcpbaaGreat
namespace Go.Proofs.YtjjpdnpbhdcpbaaGreat
set_option linter.unusedVariables false
open Go.RowKit
end Go.Proofs.YtjjpdnpbhdcpbaaGreat
namespace Go.Proofs.YtjjpdnpbhdcpbaaGreat
set_option linter.unusedVariables false
open Go.RowKit
end Go.Proofs.YtjjpdnpbhdcpbaaGreat
namespace Go.Proofs.YtjjpdnpbhdcpbaaGreat
set_option linter.unusedVariables false
open Go.RowKit
set_option maxHeartbeats 400000 in
theorem text_ref (s : List UInt8) (hs : s.length ≤ 1099511627776) (w : World) :
 Calls Tryz.prog 72 #[.string ⟨s.toArray⟩] w fun e w' => e = .returned (.string ⟨(Cd.text s).toArray⟩) ∧ Below w.heap.size w w' := by
 have hu := fun w => unsigned_ref s.length (by omega) w
 have hl := Cd.uns_len s.length
 go_enter Tryz.func72, Tryz.ntmps72
 go_wp2_with (go_at_call 125; go_must (refine (hu _).mono ?_); rintro e w' ⟨rfl, hb1⟩)
 go_ret
 exact ⟨ret_eq (by simp [bytes_append, Cd.text]), hb1⟩
end Go.Proofs.YtjjpdnpbhdcpbaaGreat
namespace Go.Proofs.YtjjpdnpbhdcpbaaGreat
set_option linter.unusedVariables false
open Go.RowKit
end Go.Proofs.YtjjpdnpbhdcpbaaGreat
namespace Go.Proofs.YtjjpdnpbhdcpbaaGreat
set_option linter.unusedVariables false
namespace Cd
end Cd
end Go.Proofs.YtjjpdnpbhdcpbaaGreat
namespace Go.Proofs.YtjjpdnpbhdcpbaaGreat.Sg
set_option linter.unusedVariables false
theorem dl_take (s : Str) (k : Nat) (h : k < s.length) : dl (s.take (k + 1)) = dl (s.take k) ++ [s[k].toNat / 16, s[k].toNat % 16] := by
 unfold dl
 rw [List.take_succ_eq_append_getElem h, List.flatMap_append]
 simp only [List.flatMap_cons, List.flatMap_nil, List.append_nil]
theorem chn_succ (seed : Str) (i : Nat) (d : List Nat) (k : Nat) : chn seed i d (k + 1) = chn seed i d k ++ [wlk i k 0 (d.getD k 0) (sec seed i k)] := by simp [chn, List.range_succ]
theorem ends_le (i : Nat) (d : List Nat) (L : List Str) (B : Nat) (hB : 32 ≤ B) (hL : ∀ c, (L.getD c []).length ≤ B) : ∀ k, (ends i d L k).length ≤ B * k
 | 0 => by simp [ends]
 | k + 1 => by
   rw [ends_succ, List.length_append]
   have h1 := ends_le i d L B hB hL k
   have h2 := wlk_le i k (d.getD k 0) B hB (15 - d.getD k 0) _ (hL k)
   rw [Nat.mul_succ]
   omega
end Go.Proofs.YtjjpdnpbhdcpbaaGreat.Sg
namespace Go.Proofs.YtjjpdnpbhdcpbaaGreat
set_option linter.unusedVariables false
open Go.RowKit
end Go.Proofs.YtjjpdnpbhdcpbaaGreat
namespace Go.Proofs.YtjjpdnpbhdcpbaaGreat
set_option linter.unusedVariables false
open Go.RowKit
end Go.Proofs.YtjjpdnpbhdcpbaaGreat
namespace Go.Proofs.YtjjpdnpbhdcpbaaGreat
set_option linter.unusedVariables false
open Go.RowKit
set_option maxRecDepth 20000 in
set_option maxHeartbeats 2000000 in
theorem inc_rk (A : Option Addr) (L : List Mk.Str) (c : Nat) (i : Int) (w : World) (hR : Rd w A (strs L)) (hl : L.length ≤ 1099511627776) (hc : L.length ≤ c) (hm : c ≤ maxLen) :
 Calls Tryz.prog 105 #[.slice A L.length c, .int .i64 i] w (PrP (mInc L i) w) := by
 have k1 := rvalid_spec A L c w hR (by omega)
 have z0 : St w.heap.size w w [ownR 9 1 (.slice none 0 0) 0 (strs [])] := (St.nil w).new_own (Below.refl _ w) (World.ownsRow_nil _ _ _ _)
 unfold mInc
 cases hq : (decide (L.length ≤ 4096) && vld L) with
 | true =>
   rw [hq] at k1
   clear hq
   rw [if_pos rfl]
   by_cases h0 : i < 0
   ·rw [if_pos (.inl h0)]
    have g0 : decide (i < 0) = true := by simp; exact h0
    clear hR
    go_enter Tryz.func105, Tryz.ntmps105
    go_wp2_with fail
    refine k1.mono ?_
    rintro e w' ⟨rfl, rfl⟩
    go_wp2
    go_ret2
    exact ⟨_, rfl, z0⟩
   have g0 : decide (i < 0) = false := by simp; omega
   by_cases h1 : (L.length : Int) ≤ i
   ·rw [if_pos (.inr h1)]
    have g1 : decide (i ≥ (L.length : Int)) = true := by simp; omega
    clear hR
    go_enter Tryz.func105, Tryz.ntmps105
    go_wp2_with fail
    refine k1.mono ?_
    rintro e w' ⟨rfl, rfl⟩
    go_wp2
    go_ret2
    exact ⟨_, rfl, z0⟩
   ·rw [if_neg (by omega)]
    have g1 : decide (i ≥ (L.length : Int)) = false := by simp; omega
    obtain ⟨m, rfl⟩ : ∃ m : Nat, i = m := ⟨i.toNat, by omega⟩
    have k2 := rincl_spec L.length A L m c w (Nat.le_refl _) (by omega) hR hc hm (by omega)
    rw [Int.toNat_natCast]
    clear hR
    generalize Mk.incl L m = M at k2 ⊢
    go_enter Tryz.func105, Tryz.ntmps105
    go_wp2_with fail
    refine k1.mono ?_
    rintro e w' ⟨rfl, rfl⟩
    go_wp2_with fail
    refine k2.mono ?_
    rintro e w' ⟨v, rfl, h⟩
    go_wp2
    go_ret2
    exact ⟨_, rfl, h⟩
 | false =>
   rw [hq] at k1
   clear hq hR
   rw [if_neg (by simp)]
   go_enter Tryz.func105, Tryz.ntmps105
   go_wp2_with fail
   refine k1.mono ?_
   rintro e w' ⟨rfl, rfl⟩
   go_wp2
   go_ret2
   exact ⟨_, rfl, z0⟩
end Go.Proofs.YtjjpdnpbhdcpbaaGreat
namespace Go.Proofs.YtjjpdnpbhdcpbaaGreat
set_option linter.unusedVariables false
open Go.RowKit
end Go.Proofs.YtjjpdnpbhdcpbaaGreat
namespace Go.Proofs.YtjjpdnpbhdcpbaaGreat
set_option linter.unusedVariables false
open Go.RowKit
end Go.Proofs.YtjjpdnpbhdcpbaaGreat
namespace Go.Proofs.YtjjpdnpbhdcpbaaGreat
set_option linter.unusedVariables false
open Go.RowKit
end Go.Proofs.YtjjpdnpbhdcpbaaGreat
namespace Go.Proofs.YtjjpdnpbhdcpbaaGreat
set_option linter.unusedVariables false
open Go.RowKit
end Go.Proofs.YtjjpdnpbhdcpbaaGreat
namespace Go.Proofs.YtjjpdnpbhdcpbaaGreat
set_option linter.unusedVariables false
open Go.RowKit
def fewB (L : List Mk.Str) : Bool := decide (L.length ≤ 70) && decide ((L.map List.length).sum ≤ 20000)
set_option maxRecDepth 20000 in
set_option maxHeartbeats 1000000 in
theorem mfew_spec (A : Option Addr) (L : List Mk.Str) (c : Nat) (w : World) (hR : Rd w A (strs L)) (hb : weight L ≤ 9223372036854775807) :
 Calls Tryz.prog 34 #[.slice A L.length c] w fun e w' => e = .returned (.bool (fewB L)) ∧ w = w' := by
 have hL63 : L.length ≤ 9223372036854775807 := by unfold weight at hb; omega
 go_enter Tryz.func34, Tryz.ntmps34
 go_wp2
 go_loop [3, 4] (fun n i => ∃ k : Nat, k ≤ L.length ∧ i = .int .i64 k ∧ n = .int .i64 ((((L.take k).map List.length).sum : Nat) : Int)) (fun _ i => L.length - (intOf i).toNat)
 case atStart => exact ⟨0, Nat.zero_le _, rfl, by simp⟩
 case round =>
  obtain ⟨k, hk, rfl, rfl⟩ := hrel
  by_cases hlt : k < L.length
  ·obtain ⟨b, off, rfl, hc⟩ := hR.str hlt
   have ht := weight_take L k hlt
   have hle := weight_take_le L (k + 1)
   have hb1 : ((L.take k).map List.length).sum + L[k].length ≤ 9223372036854775807 := by unfold weight at hb; omega
   obtain ⟨m, hm⟩ : ∃ m, ((L.take k).map List.length).sum = m := ⟨_, rfl⟩
   rw [hm] at hb1 ht
   rw [hm]
   have HT := Lib.hid ht; have HM := Lib.hid hm
   clear ht hm hle hb
   go_wp2
   go_round
   case rel => exact ⟨k + 1, by omega, by go_num, by rw [HT.out]; go_num⟩
   case measure => simp [intOf]; omega
  ·obtain rfl : k = L.length := by omega
   rw [List.take_length]
   obtain ⟨m, hm⟩ : ∃ m, (L.map List.length).sum = m := ⟨_, rfl⟩
   rw [hm]
   have HM := Lib.hid hm
   have hf : fewB L = (decide (L.length ≤ 70) && decide (m ≤ 20000)) := by unfold fewB; rw [hm]
   have HR := Lib.hid hR
   have HF := Lib.hid hf
   clear hm hf hb hR
   have hlt2 : decide ((L.length : Int) < (L.length : Int)) = false := by simp
   have g2 : decide ((m : Int) ≤ 20000) = decide (m ≤ 20000) := decide_eq_decide.2 (by omega)
   have G2 := Lib.hid g2
   clear g2
   by_cases h7 : L.length ≤ 70
   ·have g1 : decide ((L.length : Int) ≤ 70) = true := by simp; omega
    have g3 : decide (L.length ≤ 70) = true := by simp; omega
    go_wp2
    go_ret
    exact ⟨by rw [HF.out, g3, ← G2.out]; rfl, rfl⟩
   ·have g1 : decide ((L.length : Int) ≤ 70) = false := by simp; omega
    have g3 : decide (L.length ≤ 70) = false := by simp; omega
    go_wp2
    go_ret
    exact ⟨by rw [HF.out, g3]; rfl, rfl⟩
end Go.Proofs.YtjjpdnpbhdcpbaaGreat
namespace Go.Proofs.YtjjpdnpbhdcpbaaGreat
set_option linter.unusedVariables false
open Go.RowKit
end Go.Proofs.YtjjpdnpbhdcpbaaGreat
namespace Go.Proofs.YtjjpdnpbhdcpbaaGreat
set_option linter.unusedVariables false
open Go.RowKit Go.Shelf
attribute [local go_sem] Oper.semAt_some
theorem dl_take (s : Sg.Str) (k : Nat) (h : k < s.length) : Sg.dl (s.take (k + 1)) = Sg.dl (s.take k) ++ [s[k].toNat / 16, s[k].toNat % 16] := by
 unfold Sg.dl
 rw [List.take_succ_eq_append_getElem h, List.flatMap_append]
 simp
set_option maxRecDepth 20000 in
set_option maxHeartbeats 4000000 in
theorem rdigits_spec (msg : Sg.Str) (w : World) (hm : msg.length ≤ 1073741824) :
 Calls Tryz.prog 102 #[.string ⟨msg.toArray⟩] w fun e w' => ∃ A c, e = .returned (.slice A 67 c) ∧ 67 ≤ c ∧ c ≤ maxLen ∧ St w.heap.size w w' [ownR 3 1 (.slice A 67 c) 67 (nints (Sg.dgs msg))] := by
 have ksum := fun W' => rsum_spec msg (by omega) W'
 have hdg : Sg.dgs msg = Sg.dl (Sh.sha msg) ++ Sg.tail3 (Sg.lack (Sg.dl (Sh.sha msg))) := rfl
 have hsl : (Sh.sha msg).length = 32 := Sh.sha_length _
 have hll : ∀ k, k ≤ 32 → Sg.lack (Sg.dl ((Sh.sha msg).take k)) ≤ 1000 := fun k hk => by
  have h1 := Sg.lack_le (Sg.dl ((Sh.sha msg).take k))
  rw [Sg.dl_len, List.length_take] at h1
  omega
 have hpl := bytes_size (Sh.sha msg)
 rw [hdg]
 generalize Sh.sha msg = H at *
 rw [hsl] at hpl
 clear hdg
 go_enter Tryz.func102, Tryz.ntmps102
 go_wp2_with fail
 refine (ksum _).mono ?_
 rintro e w1 ⟨rfl, b1⟩
 have h1 : St w.heap.size w (w1.alloc (.cells #[] 3)) [ownR 3 1 (.slice (some ⟨w1.heap.size, 0, none⟩) 0 0) 0 (nints (Sg.dl (H.take 0)))] := ((St.nil w).under b1).new_own ((Below.refl _ w1).alloc (Nat.le_refl _) _) (World.ownsRow_lit w1 #[] 0 (Nat.le_refl _) (by decide) rfl)
 go_wp2_with fail
 go_loopw [4, 5, 6] (fun s4 s5 s6 wr => ∃ (k : Nat) (v' : Value), k ≤ 32 ∧ v' = s4 ∧ s5 = .int .i64 ((Sg.lack (Sg.dl (H.take k)) : Nat) : Int) ∧ s6 = .int .i64 (k : Int) ∧ St w.heap.size w wr [ownR 3 1 v' (2 * k) (nints (Sg.dl (H.take k)))]) (fun _ _ j _ => 32 - (intOf j).toNat)
 case atStart => exact ⟨0, _, by omega, rfl, rfl, rfl, h1⟩
 case round =>
  clear h1 ksum
  obtain ⟨k, v, hk, rfl, rfl, rfl, h⟩ := hrel
  by_cases hlt : k < 32
  ·have hkl : k < H.length := by omega
   have hx : ∀ hh, (⟨H.toArray⟩ : ByteArray)[k]'hh = H[k] := fun hh => at_byte H k hkl hh
   have hdt := dl_take H k hkl
   have hlk : Sg.lack (Sg.dl (H.take (k + 1))) = Sg.lack (Sg.dl (H.take k)) + (15 - H[k].toNat / 16) + (15 - H[k].toNat % 16) := by
    rw [hdt, Sg.lack_append]
    simp [Sg.lack]
    omega
   have hl0 := hll k hk
   have hxl := H[k].toNat_lt
   obtain ⟨n, hn⟩ : ∃ n, H[k].toNat = n := ⟨_, rfl⟩
   have hxn : ∀ hh, ((⟨H.toArray⟩ : ByteArray)[k]'hh).toNat = n := fun hh => by rw [hx hh]; exact hn
   rw [hn] at hdt hlk hxl
   have q1 : IntKind.i64.wrap (n : Int) = (n : Int) := by rw [IntKind.wrap_i64]; omega
   clear hx
   generalize Sg.lack (Sg.dl (H.take k)) = l at hlk hl0 ⊢
   obtain ⟨a, ha⟩ : ∃ a, n / 16 = a := ⟨_, rfl⟩
   obtain ⟨b, hb⟩ : ∃ b, n % 16 = b := ⟨_, rfl⟩
   have e3 : (n : Int).tdiv 16 = (a : Int) := by rw [Int.tdiv_eq_ediv_of_nonneg (by omega)]; omega
   have e5 : (n : Int).tmod 16 = (b : Int) := by rw [Int.tmod_eq_emod_of_nonneg (by omega)]; omega
   have q3 : IntKind.i64.wrap (a : Int) = (a : Int) := by rw [IntKind.wrap_i64]; omega
   have ha15 : a ≤ 15 := by omega
   have hb15 : b ≤ 15 := by omega
   rw [ha, hb] at hdt hlk
   have htk : nints (Sg.dl (H.take (k + 1))) = nints (Sg.dl (H.take k)) ++ [.int .i64 (a : Int), .int .i64 (b : Int)] := by
    rw [hdt]
    unfold nints
    rw [List.map_append]
    rfl
   have HK := Lib.hid (And.intro hlk htk)
   have g1 : decide ((k : Int) < 32) = true := by simp; omega
   have g2 : (k : Int) < 32 := by omega
   have b1 : (2 * k + 2) * 8 ≤ 140737488355328 := by omega
   have b2 : 2 * k + 2 ≤ maxLen := by unfold maxLen; omega
   have b3 : 32 ≤ maxLen := by decide
   have y0 := h.drew
   clear hlk htk hdt ha hb hll hn
   have hT : True := trivial
   have hone : ∀ u ∈ (#[Value.int .i64 (a : Int), Value.int .i64 (b : Int)]).toList, u.oneCell' = true := fun u hu => by
    simp only [List.mem_cons, List.not_mem_nil, or_false] at hu
    rcases hu with rfl | rfl <;> rfl
   go_wp2_with fail
   refine wp_region_noPanic ?_
   refine wp_region_held_drew (S := (fun w' => True)) (by kernel_rfl) ?_ (fun hH0 => ?_)
   ·exact hT
   refine tk 0 16 hH0 ?_
   refine tk 1 17 hH0 ?_
   refine tk 2 18 hH0 ?_
   refine tk 3 19 hH0 ?_
   refine tk 4 20 hH0 ?_
   refine tk 5 21 hH0 ?_
   refine tk 6 22 hH0 ?_
   refine tk 7 23 hH0 ?_
   refine tk 8 24 hH0 ?_
   refine tk 9 25 hH0 ?_
   refine tk 10 26 hH0 ?_
   refine rdy [11] ?_
   refine an 27 fun K hK => ?_
   go_simp
   refine hK.out _ _ ?_ (fun hH1 => ?_)
   ·exact hT
   clear hK K hH0
   try simp only [pu]
   refine rdy [12] ?_
   refine an 28 fun K hK => ?_
   (
    refine stepN 125 #[.int .i64 (a : Int), .int .i64 (b : Int)] h Tryz.underlying125 info_int rfl _ _ (by rfl) (by rfl) (by rfl) (by rfl) rfl (Nat.succ_pos 1) hone b2 b1 ?_
    intro gg cap w5 h8 _)
   refine hK.out _ _ ?_ (fun hH2 => ?_)
   ·exact hT
   clear hK K hH1
   try simp only [pu]
   refine tk 13 4 hH2 ?_
   refine dn ?_ _
   all_goals (refine NoPanic.normal ?_)
   have H8 := Lib.hid h8
   have q4 : IntKind.i64.wrap ((l : Int) + 30) = (l : Int) + 30 := by rw [IntKind.wrap_i64]; omega
   have q5 : IntKind.i64.wrap ((l : Int) + 30 - (a : Int)) = (l : Int) + 30 - (a : Int) := by rw [IntKind.wrap_i64]; omega
   have q6 : IntKind.i64.wrap ((l : Int) + 30 - (a : Int) - (b : Int)) = (l : Int) + 30 - (a : Int) - (b : Int) := by rw [IntKind.wrap_i64]; omega
   clear h h8 y0 hone
   go_wp2
   go_quiet (fail)
   go_wp2
   go_roundw
   case rel => exact ⟨k + 1, _, by omega, rfl, by rw [HK.out.1]; go_num, by go_num, by rw [HK.out.2, show 2 * (k + 1) = 2 * k + 2 from by omega]; exact H8.out.drewN _⟩
   case measure => simp [intOf]; omega
  ·obtain rfl : k = 32 := by omega
   have htk : H.take 32 = H := List.take_of_length_le (by omega)
   have hl0 := hll 32 (Nat.le_refl _)
   rw [htk] at h hl0 ⊢
   have HT := Lib.hid (show nints (Sg.dl H ++ Sg.tail3 (Sg.lack (Sg.dl H))) = nints (Sg.dl H) ++ [.int .i64 ((Sg.lack (Sg.dl H) / 256 : Nat) : Int), .int .i64 ((Sg.lack (Sg.dl H) / 16 % 16 : Nat) : Int), .int .i64 ((Sg.lack (Sg.dl H) % 16 : Nat) : Int)] by unfold nints; rw [List.map_append]; rfl)
   obtain ⟨l, hlD⟩ : ∃ l, Sg.lack (Sg.dl H) = l := ⟨_, rfl⟩
   rw [hlD] at hl0 HT ⊢
   have HLD := Lib.hid hlD
   have b1 : (64 + 3) * 8 ≤ 140737488355328 := by omega
   have b2 : 64 + 3 ≤ maxLen := by unfold maxLen; omega
   have e1 : (l : Int).tdiv 256 = ((l / 256 : Nat) : Int) := by rw [Int.tdiv_eq_ediv_of_nonneg (by omega)]; omega
   have e2 : (l : Int).tdiv 16 = ((l / 16 : Nat) : Int) := by rw [Int.tdiv_eq_ediv_of_nonneg (by omega)]; omega
   have e3 : ((l / 16 : Nat) : Int).tmod 16 = ((l / 16 % 16 : Nat) : Int) := by rw [Int.tmod_eq_emod_of_nonneg (by omega)]; omega
   have e4 : (l : Int).tmod 16 = ((l % 16 : Nat) : Int) := by rw [Int.tmod_eq_emod_of_nonneg (by omega)]; omega
   obtain ⟨a, ha⟩ : ∃ a, l / 256 = a := ⟨_, rfl⟩
   obtain ⟨b, hb⟩ : ∃ b, l / 16 % 16 = b := ⟨_, rfl⟩
   obtain ⟨c, hc⟩ : ∃ c, l % 16 = c := ⟨_, rfl⟩
   obtain ⟨d, hd⟩ : ∃ d, l / 16 = d := ⟨_, rfl⟩
   rw [hd] at e2 e3 hb
   rw [hb] at e3
   rw [ha] at e1
   rw [hc] at e4
   have q1 : IntKind.i64.wrap (a : Int) = (a : Int) := by rw [IntKind.wrap_i64]; omega
   have q2 : IntKind.i64.wrap (d : Int) = (d : Int) := by rw [IntKind.wrap_i64]; omega
   have H4 := Lib.hid h
   have HA := Lib.hid (And.intro ha (And.intro hb (And.intro hc hd)))
   have b3 : 64 + 3 ≤ maxLen := b2
   clear h hll hlD ha hb hc hd htk
   go_wp2_with (at_builtin; go_must (refine appendM 125 (H4.out.alloc0 (.cells #[.int .i64 (a : Int), .int .i64 (b : Int), .int .i64 (c : Int)] 3)) Tryz.underlying125 info_int rfl (by decide) rfl _ _ rfl rfl ⟨wr.heap.size, 0, none⟩ 3 3 [.int .i64 (a : Int), .int .i64 (b : Int), .int .i64 (c : Int)] rfl rfl (new_row wr #[.int .i64 (a : Int), .int .i64 (b : Int), .int .i64 (c : Int)] 3) (by intro u hu; simp at hu; rcases hu with rfl | rfl | rfl <;> rfl) b2 b1 ?_); intro v8 w8 h8)
   obtain ⟨A1, c1, rfl, hc1, hm1⟩ := own_form h8.own
   have H8 := Lib.hid h8
   clear h8
   go_ret
   refine ⟨A1, c1, rfl, hc1, hm1, ?_⟩
   rw [HLD.out, HT.out, HA.out.1, HA.out.2.2.2, HA.out.2.1, HA.out.2.2.1]
   exact H8.out
end Go.Proofs.YtjjpdnpbhdcpbaaGreat
namespace Go.Proofs.YtjjpdnpbhdcpbaaGreat
set_option linter.unusedVariables false
open Go.ChangeShapes hiding strs
open Go.WideShapes Go.ChangeAt Go.RowKit
theorem own_knob : ownKnob Tryz.prog.godebug = none := by kernel_rfl
theorem laid_out : laidOutB Tryz.prog = true := by kernel_rfl
theorem below_trodAll {H : Type} {enc : TypeId × Value → H} {P : Program} (hl : laidOutB P = true) {W W' : World} (hb : Below W.heap.size W W') :
 ∀ {ts : List TypeId} {vs : List Value} {ds : List (DataW H)} {ps : List MemPlace}, (∀ t ∈ ts, P.readableRec t = true ∧ t < P.types.size) →
   DataW.TrodAll enc P W 0 (fun _ => true) true ts vs ds ps → DataW.TrodAll enc P W' 0 (fun b => decide (b < W.heap.size)) true ts vs ds ps
 | [], [], [], _, _, h => h
 | [], [], _ :: _, _, _, h => h.elim
 | [], _ :: _, _, _, _, h => h.elim
 | _ :: _, [], _, _, _, h => h.elim
 | _ :: _, _ :: _, [], _, _, h => h.elim
 | t :: ts, v :: vs, d :: ds, ps, hr, h => by
   obtain ⟨p, q, h1, h2, rfl⟩ := h
   have hlt : ∀ x ∈ p, x.block < W.heap.size := by obtain ⟨m, hm⟩ := h1; exact DataW.trod_lt m _ _ _ hm
   exact ⟨p, q, Below.trod hl (hr t (by simp)).1 (hr t (by simp)).2 h1 hb hlt, below_trodAll hl hb (fun t' ht' => hr t' (by simp [ht'])) h2, rfl⟩
theorem law_post {H : Type} {enc : TypeId × Value → H} {P : Program} {f : Func} {s : ChangeSpec} {W W' : World} {args : Array Value} {ds gs : List (DataW H)} {before : List MemPlace} {tb : TypeId}
 (hl : laidOutB P = true) (hr' : (f.params.toList.all fun t => P.readableRec t && decide (t < P.types.size)) = true) (hrt : f.resultTypes = #[tb]) (htb : P.underlying tb = some .bool)
 (hv : s.vars = []) (hW : DataW.Whole enc P f.params.toList s.vars false W args.toList ds gs before)
 (h1 : (s.fn H (ds ++ gs)).results = [.lit (.bool true)]) (h2 : (s.fn H (ds ++ gs)).args = ds) (h3 : (s.fn H (ds ++ gs)).vars = []) (hb : Below W.heap.size W W') :
 s.post enc P f false true false false W args (.bool true) W' := by
 have hr : ∀ t ∈ f.params.toList, P.readableRec t = true ∧ t < P.types.size := fun t ht => by simpa using List.all_eq_true.1 hr' t ht
 have hW' := hW
 obtain ⟨p, q, hA, hV, rfl, hfz, hnd⟩ := hW
 refine ⟨ds, gs, _, [], p, [], hW', ?_, ?_, ?_, hb.frame _, fun h => by cases h⟩
 ·rw [hrt, h1]
  exact trodAll_cons_mk (shut_bool htb true) trodAll_mk0
 ·rw [h2]
  exact below_trodAll hl hb hr hA
 ·rw [h3, hv]
  rfl
theorem open_strs {H : Type} {enc : TypeId × Value → H} {P : Program} {t e : TypeId} {W : World} {base : Nat} {v : Value} {d : DataW H} {p : List MemPlace}
 (ht : P.underlying t = some (.slice e)) (he : P.underlying e = some .string) (hc : P.cellsOf e = 1) (hok : Value.okWide P W .any base t v)
 (h : DataW.Trod enc P W 0 (fun _ => true) true t v d p) :
 ∃ (A : Option Addr) (L : List (List UInt8)) (c : Nat), v = .slice A L.length c ∧ Rd W A (strs L) ∧ (A = none → L.length = 0 ∧ c = 0) ∧ L.length ≤ c ∧ c ≤ maxLen ∧ (∀ s ∈ L, s.length ≤ maxLen) ∧
   ((d = .nil ∧ L = []) ∨ ∃ rest, d = .slice (L.map fun s => .lit (.string s)) rest) := by
 obtain ⟨a0, len, cap, rfl⟩ := okWide_slice ht hok
 have hlt : ∀ x ∈ p, x.block < W.heap.size := by obtain ⟨m, hm⟩ := h; exact DataW.trod_lt m _ _ _ hm
 obtain ⟨fuel, hf⟩ := h
 rcases open_strings ht he hc hf with ⟨hcs, hx⟩ | ⟨a, len', cap', ss, hcs, _, hl, hm, hz, hx, hcell, hws⟩
 ·simp [Value.cells] at hcs
  obtain ⟨rfl, rfl, rfl⟩ := hcs
  injection hx with hx _
  exact ⟨none, [], 0, rfl, Rd.nil _ _, fun _ => ⟨rfl, rfl⟩, Nat.le_refl _, by simp [maxLen], by simp, .inl ⟨hx, rfl⟩⟩
 ·simp [Value.cells] at hcs
  obtain ⟨rfl, rfl, rfl⟩ := hcs
  simp at hz
  injection hx with hx1 hx2
  have hL : (ss.take len).map (fun s => s.data.toList) = (ss.take len).map (fun s => s.data.toList) := rfl
  have hlen : ((ss.take len).map fun s => s.data.toList).length = len := by simp; omega
  refine ⟨some a, (ss.take len).map fun s => s.data.toList, cap, by rw [hlen], ?_, (fun h => by cases h), by rw [hlen]; exact hl, hm, ?_, .inr ⟨ChangeShapes.strs (List.drop len ss), ?_⟩⟩
  ·by_cases h0 : len = 0
   ·left; subst h0; simp [strs]
   ·have hc0 := hcell 0 (by omega)
    obtain ⟨b, off, spot⟩ := a
    have hspot : spot = none := by simpa [Addr.add] using World.cell?_spot hc0
    subst hspot
    right
    refine ⟨b, off, rfl, fun j hj => ?_⟩
    have hj' : j < len := by rw [strs_length, hlen] at hj; exact hj
    have hjs : j < ss.length := by omega
    have := hcell j hjs
    rw [Addr.add_lit] at this
    rw [this]
    simp [strs, hjs]
  ·intro s hs
   simp only [List.mem_map] at hs
   obtain ⟨b, hb, rfl⟩ := hs
   have := hws b (List.mem_of_mem_take hb)
   show b.data.toList.length ≤ maxLen
   rw [Array.length_toList]
   exact this
  ·rw [hx1, List.map_map]
   rfl
theorem bulk_strs {H : Type} (L : List (List UInt8)) : Rows.uptoBulkAll (L.map fun s => (DataW.lit (.string s) : DataW H)) = L.length + (L.map List.length).sum := by
 induction L with
 | nil => simp [Rows.uptoBulkAll]
 | cons x L ih => simp only [List.map_cons, Rows.uptoBulkAll, Rows.uptoBulk, ih, List.length_cons, List.sum_cons]; omega
theorem bulk_slice {H : Type} {d : DataW H} {L : List (List UInt8)} (h : (d = .nil ∧ L = []) ∨ ∃ rest, d = .slice (L.map fun s => .lit (.string s)) rest) : L.length + (L.map List.length).sum ≤ Rows.uptoBulk d := by
 rcases h with ⟨rfl, rfl⟩ | ⟨rest, rfl⟩
 ·simp
 ·simp only [Rows.uptoBulk, bulk_strs]; omega
theorem bulk_all {H : Type} {l : List (DataW H)} (hk : Rows.uptoSmall H l = true) : Rows.uptoBulkAll l ≤ 1048576 := of_decide_eq_true hk
theorem i64_bounds {n : Int} (h : (Lit.int .i64 n).wf = true) : -9223372036854775808 ≤ n ∧ n ≤ 9223372036854775807 := by
 simpa [Lit.wf, IntKind.min, IntKind.max, IntKind.signed, IntKind.bits] using h
end Go.Proofs.YtjjpdnpbhdcpbaaGreat
namespace Go.Proofs.YtjjpdnpbhdcpbaaGreat
set_option linter.unusedVariables false
open Go.RowKit
section
variable {P : Program} (w : World) {ops : Array Oper} {rest : List Oper} {o : Oper} {a : Act} {K : Act → World → Prop} {Q : Exit → Act → World → Prop} {E : Prop}
theorem app_op (s x : Operand) (t : TypeId) (ho : o.op = .call { callee := .builtin .append, args := #[s, x], argTypes := #[t, t] })
 (e : TypeId) (z : Value) (size bytes base : Nat) (ht : P.underlying t = some (.slice e)) (hi : (P.info? e).map (fun i => (i.zero, i.size, i.bytes)) = some (some z, size, bytes)) (hzs : z.cells.size = size) (hsz : 0 < size)
 (v : Value) (n : Nat) (xs : List Value) (A : Option Addr) (m c : Nat) (news : List Value) (hs : a.eval s = v) (hx : a.eval x = .slice A m c) (hown : w.ownsRow base e size v n xs)
 (hnil : A = none → m = 0 ∧ c = 0) (hR : Rd w A news) (hm : news.length = m * size) (hu : ∀ u ∈ news, u.oneCell' = true) (hn : (n + m) * bytes ≤ 140737488355328) (h63 : n + m ≤ maxLen) (hb : base ≤ w.heap.size)
 (h : ∀ v' w', w'.ownsRow base e size v' (n + m) (xs ++ news) → w.grownBy w' v.ownBlock → K (a.put o.dst v') w') : o.wp P a w K Q := by
 obtain ⟨i, hi', h1, h2, h3⟩ := info_parts hi
 unfold Oper.wp execOp
 cases A with
 | none =>
   obtain ⟨rfl, rfl⟩ := hnil rfl
   have hnews : news = [] := List.eq_nil_of_length_eq_zero (by omega)
   subst hnews
   have hrun := run_append_owned_none (P := P) w base t o.type e i size ht hi' v n xs hown
   simp only [ho, resolve, invoke, builtin, Sem.run_bind, Sem.run_pure, Result.andThen_ok, List.map_toArray, List.map_cons, List.map_nil, hs, hx, hrun]
   exact h v w (by simpa using hown) (World.grownBy.refl _ _)
 | some ad =>
   have hnews : ∀ j u, news[j]? = some u → w.cell? (ad.add j) = some u := by
    intro j u hj
    rcases hR with hR | ⟨b, off, hA, hc⟩
    ·subst hR; simp at hj
    ·have hlt := (List.getElem?_eq_some_iff.1 hj).1
     injection hA with hA
     subst hA
     rw [Addr.add_lit, hc j hlt]
     rw [List.getElem?_eq_getElem hlt] at hj
     exact hj
   obtain ⟨v', w', hrun, r1, r2, _⟩ := run_append_own (P := P) w base t o.type e i z size bytes ht hi' h1 h2 h3 hzs hsz v n xs hown ad m c news hm hnews hu h63 hn hb
   simp only [ho, resolve, invoke, builtin, Sem.run_bind, Sem.run_pure, Result.andThen_ok, List.map_toArray, List.map_cons, List.map_nil, hs, hx, hrun]
   exact h v' w' r1 r2
end
end Go.Proofs.YtjjpdnpbhdcpbaaGreat
namespace Go.Proofs.YtjjpdnpbhdcpbaaGreat
set_option linter.unusedVariables false
open Go.ChangeShapes hiding strs
open Go.WideShapes Go.ChangeAt Go.RowKit
theorem strs_of {H : Type} {enc : TypeId × Value → H} {P : Program} {t e : TypeId} {W : World} {n : Nat} {v : Value} {x : DataW H × List MemPlace}
 (ht : P.underlying t = some (.slice e)) (he : P.underlying e = some .string) (hc : P.cellsOf e = 1) (hf : DataW.trod enc P W 0 (fun _ => true) true n t [v] = some x) :
 ∃ (A : Option Addr) (L : List (List UInt8)) (c : Nat), v = .slice A L.length c ∧ Rd W A (strs L) ∧ (A = none → L.length = 0 ∧ c = 0) ∧ L.length ≤ c ∧ c ≤ maxLen ∧ (∀ s ∈ L, s.length ≤ maxLen) ∧
   ((x.1 = .nil ∧ L = []) ∨ ∃ rest, x.1 = .slice (L.map fun s => .lit (.string s)) rest) := by
 rcases open_strings ht he hc hf with ⟨hcs, hx⟩ | ⟨a, len', cap', ss, hcs, _, hl, hm, hz, hx, hcell, hws⟩
 ·simp at hcs
  subst hcs
  subst hx
  exact ⟨none, [], 0, rfl, Rd.nil _ _, fun _ => ⟨rfl, rfl⟩, Nat.le_refl _, by simp [maxLen], by simp, .inl ⟨rfl, rfl⟩⟩
 ·simp at hcs
  subst hcs
  simp at hz
  subst hx
  have hlen : ((ss.take len').map fun s => s.data.toList).length = len' := by simp; omega
  refine ⟨some a, (ss.take len').map fun s => s.data.toList, cap', by rw [hlen], ?_, (fun h => by cases h), by rw [hlen]; exact hl, hm, ?_, .inr ⟨ChangeShapes.strs (List.drop len' ss), ?_⟩⟩
  ·by_cases h0 : len' = 0
   ·left; subst h0; simp [strs]
   ·have hc0 := hcell 0 (by omega)
    obtain ⟨b, off, spot⟩ := a
    have hspot : spot = none := by simpa [Addr.add] using World.cell?_spot hc0
    subst hspot
    right
    refine ⟨b, off, rfl, fun j hj => ?_⟩
    have hj' : j < len' := by rw [strs_length, hlen] at hj; exact hj
    have hjs : j < ss.length := by omega
    have := hcell j hjs
    rw [Addr.add_lit] at this
    rw [this]
    simp [strs, hjs]
  ·intro s hs
   simp only [List.mem_map] at hs
   obtain ⟨b, hb, rfl⟩ := hs
   have := hws b (List.mem_of_mem_take hb)
   show b.data.toList.length ≤ maxLen
   rw [Array.length_toList]
   exact this
  ·rw [List.map_map]
   rfl
end Go.Proofs.YtjjpdnpbhdcpbaaGreat
