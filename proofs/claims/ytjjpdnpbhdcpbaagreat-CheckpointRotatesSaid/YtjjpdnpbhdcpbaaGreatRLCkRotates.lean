/-
  CheckpointRotates: the walk. Conditions: none.
-/
import Derived.Test.YtjjpdnpbhdcpbaaGreatQCkAw
import Derived.Test.YtjjpdnpbhdcpbaaGreatQCkAwA
import Derived.Test.YtjjpdnpbhdcpbaaGreatQPe
import Derived.Test.YtjjpdnpbhdcpbaaGreatRPa
import Derived.Test.YtjjpdnpbhdcpbaaGreatQCkO
import Derived.Test.YtjjpdnpbhdcpbaaGreatQPd
import Derived.Test.YtjjpdnpbhdcpbaaGreatQCkL
import Derived.Test.YtjjpdnpbhdcpbaaGreatQCkK
import Derived.Test.YtjjpdnpbhdcpbaaGreatQCkJ
import Derived.Test.YtjjpdnpbhdcpbaaGreatQCkI
import Derived.Test.YtjjpdnpbhdcpbaaGreatQCkH
import Derived.Test.YtjjpdnpbhdcpbaaGreatQCkF
import Derived.Test.YtjjpdnpbhdcpbaaGreatQCkE
import Derived.Test.YtjjpdnpbhdcpbaaGreatQPa
import Derived.Test.YtjjpdnpbhdcpbaaGreatQCkC
import Derived.Test.YtjjpdnpbhdcpbaaGreatQPc
import Derived.Test.YtjjpdnpbhdcpbaaGreatQPb
import Derived.Test.YtjjpdnpbhdcpbaaGreatQSgJ
import Derived.Test.YtjjpdnpbhdcpbaaGreatQSgI
import Derived.Test.YtjjpdnpbhdcpbaaGreatQSgH
import Derived.Test.YtjjpdnpbhdcpbaaGreatQSgG
import Derived.Test.YtjjpdnpbhdcpbaaGreatQSgF
import Derived.Test.YtjjpdnpbhdcpbaaGreatQMkA
import Derived.Test.YtjjpdnpbhdcpbaaGreatLayJ
import Derived.Test.YtjjpdnpbhdcpbaaGreatQBase
import Derived.WalkKit
import Derived.WalkSpells
import Derived.WalkLawsBesides
import Derived.Lib.Hide
import Derived.RegionTactic
import Derived.Deep.Draws
import Derived.Deep.QuietTactic
import Derived.BigQuiet
import Derived.Deep.LoopGhost
import Derived.Deep.DeepFit
import Derived.Deep.DeepCutAuto
import Derived.Maps.AppendAt
import Derived.Deep.RegionHeld3
import Derived.Deep.MidRow
import Derived.Deep.AppendLies
import Derived.Test.YtjjpdnpbhdcpbaaGreatProg
import Derived.Test.YtjjpdnpbhdcpbaaGreatQShaA
import Derived.Laws.BitsAllLaws
import Derived.BigRegion
import Derived.Test.YtjjpdnpbhdcpbaaGreatLayC
import Derived.Test.YtjjpdnpbhdcpbaaGreatLay
import Derived.Test.YtjjpdnpbhdcpbaaGreatQShaB
import Derived.Laws.CopyRow
import Derived.Laws.IdiomStrings
import Derived.Lib.Bytealg
import Derived.Laws.MakeOwn
import Derived.Test.YtjjpdnpbhdcpbaaGreatLayL
import Derived.Test.YtjjpdnpbhdcpbaaGreatQCdA
import Derived.Lib.Builder
import Derived.Lib.UnsafeStr
import Derived.Lib.AppendStr
import Derived.Lib.FrozenHead
import Derived.Test.YtjjpdnpbhdcpbaaGreatQMkB
import Derived.Test.YtjjpdnpbhdcpbaaGreatLayR
import Derived.Lib.OthersKept
import Derived.Test.YtjjpdnpbhdcpbaaGreatQSgD
import Derived.RangeFuncNested
import Derived.RangeFuncBound
import Derived.RangeFuncCalls
import Derived.RangeFuncLeaves
import Derived.Shelf.Abstract
import Derived.Shelf.RegionOpen
import Derived.OwnWalkIn
import Derived.TacticsInMore
import Derived.LoopNIn
import Derived.LoopIn
import Derived.Lib.FrozenHead2
import Derived.OrdersIn
import Derived.RangeFuncFrom
import Derived.Laws.ResultCell
import Derived.Test.YtjjpdnpbhdcpbaaGreatQCdB
import Derived.Laws.DeepNot64
import Derived.Test.YtjjpdnpbhdcpbaaGreatQSgL
import Derived.Maps.OwnSet
import Derived.Test.YtjjpdnpbhdcpbaaGreatQCkZ
import Derived.Test.YtjjpdnpbhdcpbaaGreatQCkY
import Derived.Test.YtjjpdnpbhdcpbaaGreatQCkX
namespace Go.Proofs.YtjjpdnpbhdcpbaaGreat
set_option linter.unusedVariables false
open Go.RowKit Go.Shelf
attribute [local go_sem] Oper.semAt_some
set_option maxRecDepth 20000 in
set_option maxHeartbeats 8000000 in
theorem ckRotates_walk (AL : Option Addr) (L : List UInt8) (cL : Nat) (dr : Nat) (w : World) (hdr : dr < 256) (hR : Rd w AL (vals L)) (hc1 : L.length ≤ cL) (hc2 : cL ≤ maxLen) :
 Calls Tryz.prog 10 #[.slice AL L.length cL, .int .u8 (dr : Int)] w fun e w' => e = .returned (.bool true) ∧ Below w.heap.size w w' := by
 obtain ⟨N, hN⟩ : ∃ N, L.length = N := ⟨_, rfl⟩
 rw [hN] at hc1 ⊢
 by_cases h4 : N ≤ 4
 ·have h4' : ¬ ((4 : Int) < (N : Int)) := by omega
  by_cases h2 : 2 ≤ N
  ·have h2' : ¬ ((N : Int) < 2) := by omega
   have kP : ∀ (b : UInt8) W, Calls Tryz.prog 44 #[.agg #[.string ⟨(sd b).toArray⟩, .int .i64 1, .int .i64 0]] W fun e w' => e = .returned (.tuple #[.string ⟨(pk1 b).toArray⟩, .int .i64 0]) ∧ Below W.heap.size W w' := fun b W => by
    have := rpublic_spec (sd b) 1 0 W (by rw [sd_len]; decide)
    have hp := pubR_ok (sd b) 1 (sd_len b) (by decide)
    rw [show ((1 : Nat) : Int) = 1 from rfl] at hp
    rw [hp] at this
    exact this
   have HK := Lib.hid (And.intro kP True.intro)
   have HL := Lib.hid (And.intro hN (And.intro hR (And.intro h4 h2)))
   clear kP hR hN h4 h2 hc1 hc2
   go_enter Tryz.func10, Tryz.ntmps10
   go_wp2_with fail
   refine (awake_ck _).mono ?_
   rintro e w0 ⟨rfl, b0⟩
   have B0 := Lib.hid b0
   clear b0
   go_wp2_with fail
   go_loopw [33, 6] (fun i kv wr => ∃ k : Nat, k ≤ N ∧ i = .int .i64 k ∧ St w.heap.size w wr [ownR 9 1 kv k (strs ((L.take k).map pk1))]) (fun i _ _ => N - (intOf i).toNat)
   case atStart => exact ⟨0, Nat.zero_le _, rfl, ((St.nil w).under B0.out).new_own (Below.refl _ _) (World.ownsRow_nil _ _ _ _)⟩
   case round =>
    obtain ⟨k, hk, rfl, h⟩ := hrel
    have k0 : (0 : Int) ≤ (k : Int) := Int.natCast_nonneg _
    by_cases hlt : k < N
    ·have k1 : (k : Int) < (N : Int) := Int.ofNat_lt.2 hlt
     have hkL : k < L.length := by rw [HL.out.1]; exact hlt
     obtain ⟨sb, so, rfl, c0⟩ := rd_val (HL.out.2.1.below h.below) hkL
     have hst : strs ((L.take (k + 1)).map pk1) = strs ((L.take k).map pk1) ++ [.string ⟨(pk1 L[k]).toArray⟩] := by
      rw [List.take_succ_eq_append_getElem hkL, List.map_append, strs_append]
      rfl
     have kk := fun W => key_spec L[k] W
     have kp := fun W => HK.out.1 L[k] W
     have q1 : (k + 1) * 16 ≤ 140737488355328 := by have := HL.out.2.2.1; omega
     have q2 : k + 1 ≤ maxLen := by have := HL.out.2.2.1; unfold maxLen; omega
     generalize L[k] = a at c0 hst kk kp
     generalize hy : pk1 a = y at hst kp
     generalize sd a = S at kk kp
     have H := Lib.hid (And.intro hst (And.intro hlt h))
     clear hst h hlt hkL hy
     go_wp2_with fail
     refine (kk _).mono ?_
     rintro e w2 ⟨rfl, b2⟩
     go_wp2_with fail
     refine (kp _).mono ?_
     rintro e w3 ⟨rfl, b3⟩
     have h3 := (H.out.2.2.under b2).under b3
     clear b2 b3 kk kp c0
     go_wp2_with (at_builtin; go_must (refine appendO 27 (te := 9) (u := .string ⟨y.toArray⟩) h3 Tryz.underlying27 info_str rfl rfl _ _ rfl rfl rfl rfl q2 q1 ?_); intro v8 w8 h8)
     go_roundw
     case rel => exact ⟨k + 1, Nat.succ_le_of_lt H.out.2.1, by go_num, by rw [H.out.1]; exact h8⟩
     case measure => have := H.out.2.1; simp [intOf]; omega
    ·have hkN : N = k := (Nat.le_antisymm hk (Nat.le_of_not_lt hlt)).symm
     subst hkN
     clear hlt hk
     have hfull : (L.take N).map pk1 = L.map pk1 := by rw [List.take_of_length_le (Nat.le_of_eq HL.out.1)]
     rw [hfull] at h
     obtain ⟨KA, kc, rfl, kc1, kc2⟩ := own_form h.own
     obtain ⟨kb, rfl⟩ : ∃ kb, KA = some ⟨kb, 0, none⟩ := own_some h.own (by have := HL.out.2.2.2; omega)
     obtain ⟨p, hp⟩ : ∃ p, N = p + 1 := ⟨N - 1, by have := HL.out.2.2.2; omega⟩
     have hp1 : 1 ≤ p := by have := HL.out.2.2.2; omega
     have e1 : (N : Int) - 1 = (p : Int) := by omega
     have HC := Lib.hid (And.intro kc1 kc2)
     obtain ⟨wz, rfl⟩ : ∃ wz, wz = wr := ⟨_, rfl⟩
     have hr0 : ([] : List SgRow).map stripR = rots (L.take 1) := (List.eq_nil_of_length_eq_zero (by rw [rots_len, List.length_take]; omega)).symm
     have H := Lib.hid (And.intro (h.rows0.new_own (e := 41) (size := 4) (v := .slice none 0 0) (n := 0) (xs := []) (Below.refl _ _) (World.ownsRow_nil _ _ _ _)) hr0)
     clear h hfull kc1 kc2 B0 hr0
     go_wp2_with fail
     go_loopw [53, 5] (fun i lv wr => ∃ (j : Nat) (R : List SgRow), j ≤ p ∧ i = .int .i64 j ∧ R.map stripR = rots (L.take (j + 1)) ∧ (∀ x ∈ R, RowCap x) ∧ St w.heap.size w wr [ownR 41 4 lv j (R.flatMap rowC), rowsG R, ownR 9 1 (.slice (some ⟨kb, 0, none⟩) N kc) N (strs (L.map pk1))]) (fun i _ _ => p - (intOf i).toNat)
     case atStart => exact ⟨0, [], Nat.zero_le _, rfl, H.out.2, fun _ hx => absurd hx List.not_mem_nil, H.out.1⟩
     case round =>
      clear H
      obtain ⟨j, R, hj, rfl, hs, hcap, h⟩ := hrel
      have j0 : (0 : Int) ≤ (j : Int) := Int.natCast_nonneg _
      by_cases hlt : j < p
      ·have j1 : (j : Int) < (p : Int) := Int.ofNat_lt.2 hlt
       have hN' := HL.out.1
       have hjL : j + 1 < L.length := by rw [hN']; omega
       have j2 : (j : Int) < (N : Int) := by omega
       have j3 : (0 : Int) ≤ (j : Int) + 1 := by omega
       have j4 : (j : Int) + 1 < (N : Int) := by omega
       have j5 : ((j : Int) + 1).toNat = j + 1 := by omega
       obtain ⟨X, c, rfl, hc1, hc2⟩ := own_form h.own
       obtain ⟨sb, so, hAL, -⟩ := rd_val (HL.out.2.1.below h.below) (show j < L.length by omega)
       subst hAL
       have hrt := rots_take L j hjL
       have kk := fun W => key_spec (L[j]'(by omega)) W
       have kp : ∀ W, Calls Tryz.prog 16 #[.agg #[.string ⟨(sd (L[j]'(by omega))).toArray⟩, .int .i64 1, .int .i64 0], .string ⟨(pk1 L[j + 1]).toArray⟩] W (RtP (pk1 L[j + 1], ((((0 : Nat) : Int), sgC (sd (L[j]'(by omega))) 0 (Sg.dgs (6 :: pk1 L[j + 1])), sgT (sd (L[j]'(by omega))) 1 0), (sd (L[j]'(by omega)), ((1 : Nat) : Int), ((0 : Nat) : Int) + 1), 0)) W) := fun W => by
        have := ckrot_spec (sd (L[j]'(by omega))) ((1 : Nat) : Int) ((0 : Nat) : Int) (pk1 L[j + 1]) W
        rw [ck_rot (sd (L[j]'(by omega))) 1 0 (pk1 L[j + 1]) (sd_len _) (by decide) (by decide) (vpB_pub _ 1 (by decide))] at this
        exact this
       have hS : ∀ W' Rs, St w.heap.size w W' (ownR 9 1 (.slice (some ⟨kb, 0, none⟩) N kc) N (strs (L.map pk1)) :: Rs) → (W'.cell? ⟨sb, so + j, none⟩ = some (.int .u8 ((L[j]'(by omega)).toNat : Int)) ∧ W'.cell? ⟨kb, j + 1, none⟩ = some (.string ⟨(pk1 L[j + 1]).toArray⟩)) := fun W' Rs hh => ⟨rd_val_at (HL.out.2.1.below hh.below) (by omega), rd_key_at (Rd.of_own hh.own) hjL⟩
       have hrr : stripR ⟨pk1 L[j + 1], 0, none, sgC (sd (L[j]'(by omega))) 0 (Sg.dgs (6 :: pk1 L[j + 1])), 0, none, sgT (sd (L[j]'(by omega))) 1 0, 0⟩ = rotRow (L[j]'(by omega)) L[j + 1] := rfl
       rw [← hrr] at hrt
       have q1 : (j + 1) * 72 ≤ 140737488355328 := by have := HL.out.2.2.1; omega
       have q2 : j + 1 ≤ maxLen := by have := HL.out.2.2.1; unfold maxLen; omega
       generalize L[j]'(by omega) = a at kk kp hS hrt
       generalize pk1 L[j + 1] = k2 at kp hS hrt
       generalize sd a = S at kk kp hrt
       generalize sgC S 0 (Sg.dgs (6 :: k2)) = C at kp hrt
       generalize sgT S 1 0 = T at kp hrt
       have HQ := Lib.hid (And.intro hs (And.intro hcap (And.intro hrt (And.intro hlt hN'))))
       obtain ⟨jw1, jw2⟩ := wraps_succ j (by have := HL.out.2.2.1; omega)
       clear hs hcap hrt hrr hlt hN' hjL hc1 hc2 hp hp1
       have ks : ∀ W, Calls Tryz.prog 16 #[.agg #[.string ⟨S.toArray⟩, .int .i64 1, .int .i64 0], .string ⟨k2.toArray⟩] W (fun e w' => ∃ ua ub, e = .returned (.tuple #[.agg #[.string ⟨k2.toArray⟩, .int .i64 0, ua, ub], .agg #[.string ⟨S.toArray⟩, .int .i64 1, .int .i64 1], .int .i64 0]) ∧ St W.heap.size W w' [ownR 9 1 ua C.length (strs C), ownR 9 1 ub T.length (strs T)]) := kp
       clear kp
       go_wp2_with fail
       apply region_via6 (fun (pG pJ : Nat) (A1 A2 : Option Addr) (n1 n2 : Nat) w' => St w.heap.size w w' [cellsR (pG) 41 #[.string ⟨k2.toArray⟩, .int .i64 0, .slice A1 C.length n1, .slice A2 T.length n2], cellsR (pJ) 23 #[.string ⟨S.toArray⟩, .int .i64 1, .int .i64 1], ownR 9 1 (.slice A1 C.length n1) C.length (strs C), ownR 9 1 (.slice A2 T.length n2) T.length (strs T), ownR 41 4 (.slice X j c) j (R.flatMap rowC), rowsG R, ownR 9 1 (.slice (some ⟨kb, 0, none⟩) N kc) N (strs (L.map pk1))])
       case h =>
        have q0 := h.drew
        have sf := hS _ _ (q0.tail.tail)
        clear q0
        have qG0 := (h.alloc 41 #[.string ⟨#[]⟩, .int .i64 0, .slice none 0 0, .slice none 0 0]).drew
        have sfG := hS _ _ (qG0.tail.tail.tail)
        clear qG0
        have qGJ0 := ((h.alloc 41 #[.string ⟨#[]⟩, .int .i64 0, .slice none 0 0, .slice none 0 0]).alloc 23 #[.string ⟨#[]⟩, .int .i64 0, .int .i64 0]).drew
        have sfGJ := hS _ _ (qGJ0.tail.tail.tail.tail)
        clear qGJ0
        have qJ0 := (h.alloc 23 #[.string ⟨#[]⟩, .int .i64 0, .int .i64 0]).drew
        have sfJ := hS _ _ (qJ0.tail.tail.tail)
        clear qJ0
        have qJG0 := ((h.alloc 23 #[.string ⟨#[]⟩, .int .i64 0, .int .i64 0]).alloc 41 #[.string ⟨#[]⟩, .int .i64 0, .slice none 0 0, .slice none 0 0]).drew
        have sfJG := hS _ _ (qJG0.tail.tail.tail.tail)
        clear qJG0
        refine wp_region_noPanic ?_
        refine wp_region_held_drew (S := (fun W' => W'.cell? ⟨sb, so + j, none⟩ = some (.int .u8 (a.toNat : Int)) ∧ W'.cell? ⟨kb, j + 1, none⟩ = some (.string ⟨k2.toArray⟩))) (by kernel_rfl) ?_ (fun hH0 => ?_)
        ·with_reducible exact sf
        refine tk 0 57 hH0 ?_
        refine tk 1 58 hH0 ?_
        refine tk 2 59 hH0 ?_
        refine tk 3 60 hH0 ?_
        refine tk 5 62 hH0 ?_
        refine tk 6 63 hH0 ?_
        refine tk 7 64 hH0 ?_
        refine tk 8 65 hH0 ?_
        refine tk 9 66 hH0 ?_
        refine rdy [4, 15, 16] ?_
        refine ad 61 (fun K hK => ?_) ?_
        go_simp; (
         (with_reducible refine (kk _).mono ?_)
         rintro e wK ⟨rfl, bK⟩
         have yK := h.drew.under bK
         have sfK := hS _ _ (yK.tail.tail)
         have qKG0 := (yK.alloc 41 #[.string ⟨#[]⟩, .int .i64 0, .slice none 0 0, .slice none 0 0])
         have sfKG := hS _ _ (qKG0.tail.tail.tail)
         clear qKG0
         have qKGJ0 := ((yK.alloc 41 #[.string ⟨#[]⟩, .int .i64 0, .slice none 0 0, .slice none 0 0]).alloc 23 #[.string ⟨#[]⟩, .int .i64 0, .int .i64 0])
         have sfKGJ := hS _ _ (qKGJ0.tail.tail.tail.tail)
         clear qKGJ0
         have qKJ0 := (yK.alloc 23 #[.string ⟨#[]⟩, .int .i64 0, .int .i64 0])
         have sfKJ := hS _ _ (qKJ0.tail.tail.tail)
         clear qKJ0
         have qKJG0 := ((yK.alloc 23 #[.string ⟨#[]⟩, .int .i64 0, .int .i64 0]).alloc 41 #[.string ⟨#[]⟩, .int .i64 0, .slice none 0 0, .slice none 0 0])
         have sfKJG := hS _ _ (qKJG0.tail.tail.tail.tail)
         clear qKJG0); go_wp2_with fail
        refine hK.out _ _ (by with_reducible exact sfK) fun hH1 => ?_
        clear hK K hH0
        try simp only [pu]
        refine rdy [10, 15, 16] ?_
        refine ad 67 (fun K hK => ?_) ?_
        go_simp; (
         (with_reducible refine (ks _).mono ?_)
         rintro e wKS ⟨ua, ub, rfl, t2⟩
         obtain ⟨A1, n1, rfl, _, _⟩ := own_form t2.own
         obtain ⟨A2, n2, rfl, _, _⟩ := own_form t2.tail.own
         have yKS := yK.join t2
         have sfKS := hS _ _ (yKS.tail.tail.tail.tail)
         have qKSG0 := (yKS.alloc 41 #[.string ⟨#[]⟩, .int .i64 0, .slice none 0 0, .slice none 0 0])
         have sfKSG := hS _ _ (qKSG0.tail.tail.tail.tail.tail)
         clear qKSG0
         have qKSGJ0 := ((yKS.alloc 41 #[.string ⟨#[]⟩, .int .i64 0, .slice none 0 0, .slice none 0 0]).alloc 23 #[.string ⟨#[]⟩, .int .i64 0, .int .i64 0])
         have sfKSGJ := hS _ _ (qKSGJ0.tail.tail.tail.tail.tail.tail)
         clear qKSGJ0
         have qKSGJ1 := ((yKS.alloc 41 #[.string ⟨k2.toArray⟩, .int .i64 0, .slice A1 C.length n1, .slice A2 T.length n2]).alloc 23 #[.string ⟨#[]⟩, .int .i64 0, .int .i64 0])
         have sfKSGJ1 := hS _ _ (qKSGJ1.tail.tail.tail.tail.tail.tail)
         clear qKSGJ1
         have qKSGJ2 := ((yKS.alloc 41 #[.string ⟨k2.toArray⟩, .int .i64 0, .slice A1 C.length n1, .slice A2 T.length n2]).alloc 23 #[.string ⟨S.toArray⟩, .int .i64 1, .int .i64 1])
         have sfKSGJ2 := hS _ _ (qKSGJ2.tail.tail.tail.tail.tail.tail)
         clear qKSGJ2
         have qKSJ0 := (yKS.alloc 23 #[.string ⟨#[]⟩, .int .i64 0, .int .i64 0])
         have sfKSJ := hS _ _ (qKSJ0.tail.tail.tail.tail.tail)
         clear qKSJ0
         have qKSJG0 := ((yKS.alloc 23 #[.string ⟨#[]⟩, .int .i64 0, .int .i64 0]).alloc 41 #[.string ⟨#[]⟩, .int .i64 0, .slice none 0 0, .slice none 0 0])
         have sfKSJG := hS _ _ (qKSJG0.tail.tail.tail.tail.tail.tail)
         clear qKSJG0
         have qKSJG1 := ((yKS.alloc 23 #[.string ⟨#[]⟩, .int .i64 0, .int .i64 0]).alloc 41 #[.string ⟨k2.toArray⟩, .int .i64 0, .slice A1 C.length n1, .slice A2 T.length n2])
         have sfKSJG1 := hS _ _ (qKSJG1.tail.tail.tail.tail.tail.tail)
         clear qKSJG1
         have qKSJG2 := ((yKS.alloc 23 #[.string ⟨S.toArray⟩, .int .i64 1, .int .i64 1]).alloc 41 #[.string ⟨k2.toArray⟩, .int .i64 0, .slice A1 C.length n1, .slice A2 T.length n2])
         have sfKSJG2 := hS _ _ (qKSJG2.tail.tail.tail.tail.tail.tail)
         clear qKSJG2); go_wp2_with fail
        refine hK.out _ _ (by with_reducible exact sfKS) fun hH2 => ?_
        clear hK K hH1
        try simp only [pu]
        refine tk 11 56 hH2 ?_
        refine tk 12 68 hH2 ?_
        refine tk 13 69 hH2 ?_
        refine tk 14 70 hH2 ?_
        refine rdy [15, 16] ?_
        refine ad 12 (fun K hK => ?_) ?_
        go_simp
        refine hK.out _ _ (by with_reducible exact sfKSG) fun hH3 => ?_
        clear hK K hH2
        try simp only [pu]
        refine rdy [16] ?_
        refine an 13 fun K hK => ?_
        go_simp
        refine hK.out _ _ (by with_reducible exact sfKSGJ) fun hH4 => ?_
        clear hK K hH3
        try simp only [pu]
        refine rdy [17] ?_
        refine az fun K hK => ?_
        go_simp
        refine hK.out _ _ (by with_reducible exact sfKSGJ1) fun hH5 => ?_
        clear hK K hH4
        try simp only [pu]
        refine rdy [18] ?_
        refine az fun K hK => ?_
        go_simp
        refine hK.out _ _ (by with_reducible exact sfKSGJ2) fun hH6 => ?_
        clear hK K hH5
        try simp only [pu]
        refine tk 19 14 hH6 ?_
        refine dn ?_ _
        rotate_left 1
        refine an 13 fun K hK => ?_
        go_simp
        refine hK.out _ _ (by with_reducible exact sfKSJ) fun hH7 => ?_
        clear hK K hH2
        try simp only [pu]
        refine rdy [15] ?_
        refine an 12 fun K hK => ?_
        go_simp
        refine hK.out _ _ (by with_reducible exact sfKSJG) fun hH8 => ?_
        clear hK K hH7
        try simp only [pu]
        refine rdy [17] ?_
        refine az fun K hK => ?_
        go_simp
        refine hK.out _ _ (by with_reducible exact sfKSJG1) fun hH9 => ?_
        clear hK K hH8
        try simp only [pu]
        refine rdy [18] ?_
        refine az fun K hK => ?_
        go_simp
        refine hK.out _ _ (by with_reducible exact sfKSJG2) fun hH10 => ?_
        clear hK K hH9
        try simp only [pu]
        refine tk 19 14 hH10 ?_
        refine dn ?_ _
        rotate_left 1
        refine ad 12 (fun K hK => ?_) ?_
        go_simp
        refine hK.out _ _ (by with_reducible exact sfKG) fun hH11 => ?_
        clear hK K hH1
        try simp only [pu]
        refine rdy [10, 16] ?_
        refine ad 67 (fun K hK => ?_) ?_
        go_simp; (
         (with_reducible refine (ks _).mono ?_)
         rintro e wKGS ⟨ua, ub, rfl, t2⟩
         obtain ⟨A1, n1, rfl, _, _⟩ := own_form t2.own
         obtain ⟨A2, n2, rfl, _, _⟩ := own_form t2.tail.own
         have yKGS := (yK.alloc 41 #[.string ⟨#[]⟩, .int .i64 0, .slice none 0 0, .slice none 0 0]).join t2
         have ltG := (yKGS.tail.tail).blk.lt
         have neG : ¬ (wKGS.heap.size = wK.heap.size) := Nat.ne_of_gt ltG
         have sfKGS := hS _ _ (yKGS.tail.tail.tail.tail.tail)
         have qKGSJ0 := (yKGS.alloc 23 #[.string ⟨#[]⟩, .int .i64 0, .int .i64 0])
         have sfKGSJ := hS _ _ (qKGSJ0.tail.tail.tail.tail.tail.tail)
         clear qKGSJ0
         have qKGSJ1 := ((((((yKGS.pk [2, 0, 1, 3, 4, 5]).set_ 0 (.string ⟨k2.toArray⟩)).set_ 1 (.int .i64 0)).set_ 2 (.slice A1 C.length n1)).set_ 3 (.slice A2 T.length n2)).alloc 23 #[.string ⟨#[]⟩, .int .i64 0, .int .i64 0])
         have sfKGSJ1 := hS _ _ (qKGSJ1.tail.tail.tail.tail.tail.tail)
         clear qKGSJ1
         have qKGSJ2 := ((((((yKGS.pk [2, 0, 1, 3, 4, 5]).set_ 0 (.string ⟨k2.toArray⟩)).set_ 1 (.int .i64 0)).set_ 2 (.slice A1 C.length n1)).set_ 3 (.slice A2 T.length n2)).alloc 23 #[.string ⟨S.toArray⟩, .int .i64 1, .int .i64 1])
         have sfKGSJ2 := hS _ _ (qKGSJ2.tail.tail.tail.tail.tail.tail)
         clear qKGSJ2
         obtain ⟨_, _, _, _, _, _, _, _⟩ := bk4 yKGS.tail.tail.blk); go_wp2_with fail
        refine hK.out _ _ (by with_reducible exact sfKGS) fun hH12 => ?_
        clear hK K hH11
        try simp only [pu]
        refine tk 11 56 hH12 ?_
        refine tk 12 68 hH12 ?_
        refine tk 13 69 hH12 ?_
        refine tk 14 70 hH12 ?_
        refine rdy [16] ?_
        refine an 13 fun K hK => ?_
        go_simp
        refine hK.out _ _ (by with_reducible exact sfKGSJ) fun hH13 => ?_
        clear hK K hH12
        try simp only [pu]
        refine rdy [17] ?_
        refine az fun K hK => ?_
        go_simp
        refine hK.out _ _ (by with_reducible exact sfKGSJ1) fun hH14 => ?_
        clear hK K hH13
        try simp only [pu]
        refine rdy [18] ?_
        refine az fun K hK => ?_
        go_simp
        refine hK.out _ _ (by with_reducible exact sfKGSJ2) fun hH15 => ?_
        clear hK K hH14
        try simp only [pu]
        refine tk 19 14 hH15 ?_
        refine dn ?_ _
        rotate_left 1
        refine an 13 fun K hK => ?_
        go_simp
        refine hK.out _ _ (by with_reducible exact sfKGJ) fun hH16 => ?_
        clear hK K hH11
        try simp only [pu]
        refine rdy [10] ?_
        refine an 67 fun K hK => ?_
        go_simp; (
         (with_reducible refine (ks _).mono ?_)
         rintro e wKGJS ⟨ua, ub, rfl, t2⟩
         obtain ⟨A1, n1, rfl, _, _⟩ := own_form t2.own
         obtain ⟨A2, n2, rfl, _, _⟩ := own_form t2.tail.own
         have yKGJS := ((yK.alloc 41 #[.string ⟨#[]⟩, .int .i64 0, .slice none 0 0, .slice none 0 0]).alloc 23 #[.string ⟨#[]⟩, .int .i64 0, .int .i64 0]).join t2
         try simp only [World.size_alloc] at yKGJS
         have ltG := (yKGJS.tail.tail.tail).blk.lt
         have neG : ¬ (wKGJS.heap.size = wK.heap.size) := Nat.ne_of_gt ltG
         have ltJ := (yKGJS.tail.tail).blk.lt
         have neJ : ¬ (wKGJS.heap.size = wK.heap.size + 1) := Nat.ne_of_gt ltJ
         have ltGJ : wK.heap.size < wK.heap.size + 1 := by first | exact ((yK.alloc 41 #[.string ⟨#[]⟩, .int .i64 0, .slice none 0 0, .slice none 0 0])).blk.lt | (have := ((yK.alloc 41 #[.string ⟨#[]⟩, .int .i64 0, .slice none 0 0, .slice none 0 0])).blk.lt; simp only [World.size_alloc] at this; exact this) | (have := ((yK.alloc 41 #[.string ⟨#[]⟩, .int .i64 0, .slice none 0 0, .slice none 0 0])).blk.lt; simp only [World.size_drew, World.size_alloc] at this; exact this)
         have neGJ : ¬ (wK.heap.size = wK.heap.size + 1) := Nat.ne_of_lt ltGJ
         have neJG : ¬ (wK.heap.size + 1 = wK.heap.size) := Nat.ne_of_gt ltGJ
         have sfKGJS := hS _ _ (yKGJS.tail.tail.tail.tail.tail.tail)
         have qKGJS1 := (((((yKGJS.pk [3, 0, 1, 2, 4, 5, 6]).set_ 0 (.string ⟨k2.toArray⟩)).set_ 1 (.int .i64 0)).set_ 2 (.slice A1 C.length n1)).set_ 3 (.slice A2 T.length n2))
         have sfKGJS1 := hS _ _ (qKGJS1.tail.tail.tail.tail.tail.tail)
         clear qKGJS1
         have qKGJS2 := (((((((((yKGJS.pk [3, 0, 1, 2, 4, 5, 6]).set_ 0 (.string ⟨k2.toArray⟩)).set_ 1 (.int .i64 0)).set_ 2 (.slice A1 C.length n1)).set_ 3 (.slice A2 T.length n2)).pk [3, 0, 1, 2, 4, 5, 6]).set_ 0 (.string ⟨S.toArray⟩)).set_ 1 (.int .i64 1)).set_ 2 (.int .i64 1))
         have sfKGJS2 := hS _ _ (qKGJS2.tail.tail.tail.tail.tail.tail)
         clear qKGJS2
         obtain ⟨_, _, _, _, _, _, _, _⟩ := bk4 yKGJS.tail.tail.tail.blk
         obtain ⟨_, _, _, _, _, _⟩ := bk3 yKGJS.tail.tail.blk); go_wp2_with fail
        refine hK.out _ _ (by with_reducible exact sfKGJS) fun hH17 => ?_
        clear hK K hH16
        try simp only [pu]
        refine tk 11 56 hH17 ?_
        refine tk 12 68 hH17 ?_
        refine tk 13 69 hH17 ?_
        refine tk 14 70 hH17 ?_
        refine rdy [17] ?_
        refine az fun K hK => ?_
        go_simp
        refine hK.out _ _ (by with_reducible exact sfKGJS1) fun hH18 => ?_
        clear hK K hH17
        try simp only [pu]
        refine rdy [18] ?_
        refine az fun K hK => ?_
        go_simp
        refine hK.out _ _ (by with_reducible exact sfKGJS2) fun hH19 => ?_
        clear hK K hH18
        try simp only [pu]
        refine tk 19 14 hH19 ?_
        refine dn ?_ _
        rotate_left 1
        refine an 13 fun K hK => ?_
        go_simp
        refine hK.out _ _ (by with_reducible exact sfKJ) fun hH20 => ?_
        clear hK K hH1
        try simp only [pu]
        refine rdy [10, 15] ?_
        refine ad 67 (fun K hK => ?_) ?_
        go_simp; (
         (with_reducible refine (ks _).mono ?_)
         rintro e wKJS ⟨ua, ub, rfl, t2⟩
         obtain ⟨A1, n1, rfl, _, _⟩ := own_form t2.own
         obtain ⟨A2, n2, rfl, _, _⟩ := own_form t2.tail.own
         have yKJS := (yK.alloc 23 #[.string ⟨#[]⟩, .int .i64 0, .int .i64 0]).join t2
         have ltJ := (yKJS.tail.tail).blk.lt
         have neJ : ¬ (wKJS.heap.size = wK.heap.size) := Nat.ne_of_gt ltJ
         have sfKJS := hS _ _ (yKJS.tail.tail.tail.tail.tail)
         have qKJSG0 := (yKJS.alloc 41 #[.string ⟨#[]⟩, .int .i64 0, .slice none 0 0, .slice none 0 0])
         have sfKJSG := hS _ _ (qKJSG0.tail.tail.tail.tail.tail.tail)
         clear qKJSG0
         have qKJSG1 := (yKJS.alloc 41 #[.string ⟨k2.toArray⟩, .int .i64 0, .slice A1 C.length n1, .slice A2 T.length n2])
         have sfKJSG1 := hS _ _ (qKJSG1.tail.tail.tail.tail.tail.tail)
         clear qKJSG1
         have qKJSG2 := (((((yKJS.pk [2, 0, 1, 3, 4, 5]).set_ 0 (.string ⟨S.toArray⟩)).set_ 1 (.int .i64 1)).set_ 2 (.int .i64 1)).alloc 41 #[.string ⟨k2.toArray⟩, .int .i64 0, .slice A1 C.length n1, .slice A2 T.length n2])
         have sfKJSG2 := hS _ _ (qKJSG2.tail.tail.tail.tail.tail.tail)
         clear qKJSG2
         obtain ⟨_, _, _, _, _, _⟩ := bk3 yKJS.tail.tail.blk); go_wp2_with fail
        refine hK.out _ _ (by with_reducible exact sfKJS) fun hH21 => ?_
        clear hK K hH20
        try simp only [pu]
        refine tk 11 56 hH21 ?_
        refine tk 12 68 hH21 ?_
        refine tk 13 69 hH21 ?_
        refine tk 14 70 hH21 ?_
        refine rdy [15] ?_
        refine an 12 fun K hK => ?_
        go_simp
        refine hK.out _ _ (by with_reducible exact sfKJSG) fun hH22 => ?_
        clear hK K hH21
        try simp only [pu]
        refine rdy [17] ?_
        refine az fun K hK => ?_
        go_simp
        refine hK.out _ _ (by with_reducible exact sfKJSG1) fun hH23 => ?_
        clear hK K hH22
        try simp only [pu]
        refine rdy [18] ?_
        refine az fun K hK => ?_
        go_simp
        refine hK.out _ _ (by with_reducible exact sfKJSG2) fun hH24 => ?_
        clear hK K hH23
        try simp only [pu]
        refine tk 19 14 hH24 ?_
        refine dn ?_ _
        rotate_left 1
        refine an 12 fun K hK => ?_
        go_simp
        refine hK.out _ _ (by with_reducible exact sfKJG) fun hH25 => ?_
        clear hK K hH20
        try simp only [pu]
        refine rdy [10] ?_
        refine an 67 fun K hK => ?_
        go_simp; (
         (with_reducible refine (ks _).mono ?_)
         rintro e wKJGS ⟨ua, ub, rfl, t2⟩
         obtain ⟨A1, n1, rfl, _, _⟩ := own_form t2.own
         obtain ⟨A2, n2, rfl, _, _⟩ := own_form t2.tail.own
         have yKJGS := ((yK.alloc 23 #[.string ⟨#[]⟩, .int .i64 0, .int .i64 0]).alloc 41 #[.string ⟨#[]⟩, .int .i64 0, .slice none 0 0, .slice none 0 0]).join t2
         try simp only [World.size_alloc] at yKJGS
         have ltG := (yKJGS.tail.tail).blk.lt
         have neG : ¬ (wKJGS.heap.size = wK.heap.size + 1) := Nat.ne_of_gt ltG
         have ltJ := (yKJGS.tail.tail.tail).blk.lt
         have neJ : ¬ (wKJGS.heap.size = wK.heap.size) := Nat.ne_of_gt ltJ
         have ltJG : wK.heap.size < wK.heap.size + 1 := by first | exact ((yK.alloc 23 #[.string ⟨#[]⟩, .int .i64 0, .int .i64 0])).blk.lt | (have := ((yK.alloc 23 #[.string ⟨#[]⟩, .int .i64 0, .int .i64 0])).blk.lt; simp only [World.size_alloc] at this; exact this) | (have := ((yK.alloc 23 #[.string ⟨#[]⟩, .int .i64 0, .int .i64 0])).blk.lt; simp only [World.size_drew, World.size_alloc] at this; exact this)
         have neJG : ¬ (wK.heap.size = wK.heap.size + 1) := Nat.ne_of_lt ltJG
         have neGJ : ¬ (wK.heap.size + 1 = wK.heap.size) := Nat.ne_of_gt ltJG
         have sfKJGS := hS _ _ (yKJGS.tail.tail.tail.tail.tail.tail)
         have qKJGS1 := (((((yKJGS.pk [2, 0, 1, 3, 4, 5, 6]).set_ 0 (.string ⟨k2.toArray⟩)).set_ 1 (.int .i64 0)).set_ 2 (.slice A1 C.length n1)).set_ 3 (.slice A2 T.length n2))
         have sfKJGS1 := hS _ _ (qKJGS1.tail.tail.tail.tail.tail.tail)
         clear qKJGS1
         have qKJGS2 := (((((((((yKJGS.pk [2, 0, 1, 3, 4, 5, 6]).set_ 0 (.string ⟨k2.toArray⟩)).set_ 1 (.int .i64 0)).set_ 2 (.slice A1 C.length n1)).set_ 3 (.slice A2 T.length n2)).pk [3, 0, 1, 2, 4, 5, 6]).set_ 0 (.string ⟨S.toArray⟩)).set_ 1 (.int .i64 1)).set_ 2 (.int .i64 1))
         have sfKJGS2 := hS _ _ (qKJGS2.tail.tail.tail.tail.tail.tail)
         clear qKJGS2
         obtain ⟨_, _, _, _, _, _, _, _⟩ := bk4 yKJGS.tail.tail.blk
         obtain ⟨_, _, _, _, _, _⟩ := bk3 yKJGS.tail.tail.tail.blk); go_wp2_with fail
        refine hK.out _ _ (by with_reducible exact sfKJGS) fun hH26 => ?_
        clear hK K hH25
        try simp only [pu]
        refine tk 11 56 hH26 ?_
        refine tk 12 68 hH26 ?_
        refine tk 13 69 hH26 ?_
        refine tk 14 70 hH26 ?_
        refine rdy [17] ?_
        refine az fun K hK => ?_
        go_simp
        refine hK.out _ _ (by with_reducible exact sfKJGS1) fun hH27 => ?_
        clear hK K hH26
        try simp only [pu]
        refine rdy [18] ?_
        refine az fun K hK => ?_
        go_simp
        refine hK.out _ _ (by with_reducible exact sfKJGS2) fun hH28 => ?_
        clear hK K hH27
        try simp only [pu]
        refine tk 19 14 hH28 ?_
        refine dn ?_ _
        rotate_left 1
        refine ad 12 (fun K hK => ?_) ?_
        go_simp
        refine hK.out _ _ (by with_reducible exact sfG) fun hH29 => ?_
        clear hK K hH0
        try simp only [pu]
        refine rdy [4, 16] ?_
        refine ad 61 (fun K hK => ?_) ?_
        go_simp; (
         (with_reducible refine (kk _).mono ?_)
         rintro e wGK ⟨rfl, bK⟩
         have yGK := (h.alloc 41 #[.string ⟨#[]⟩, .int .i64 0, .slice none 0 0, .slice none 0 0]).drew.under bK
         have sfGK := hS _ _ (yGK.tail.tail.tail)
         have qGKJ0 := (yGK.alloc 23 #[.string ⟨#[]⟩, .int .i64 0, .int .i64 0])
         have sfGKJ := hS _ _ (qGKJ0.tail.tail.tail.tail)
         clear qGKJ0); go_wp2_with fail
        refine hK.out _ _ (by with_reducible exact sfGK) fun hH30 => ?_
        clear hK K hH29
        try simp only [pu]
        refine rdy [10, 16] ?_
        refine ad 67 (fun K hK => ?_) ?_
        go_simp; (
         (with_reducible refine (ks _).mono ?_)
         rintro e wGKS ⟨ua, ub, rfl, t2⟩
         obtain ⟨A1, n1, rfl, _, _⟩ := own_form t2.own
         obtain ⟨A2, n2, rfl, _, _⟩ := own_form t2.tail.own
         have yGKS := yGK.join t2
         have ltG := (yGKS.tail.tail).blk.lt
         have neG : ¬ (wGKS.heap.size = wr.heap.size) := Nat.ne_of_gt ltG
         have sfGKS := hS _ _ (yGKS.tail.tail.tail.tail.tail)
         have qGKSJ0 := (yGKS.alloc 23 #[.string ⟨#[]⟩, .int .i64 0, .int .i64 0])
         have sfGKSJ := hS _ _ (qGKSJ0.tail.tail.tail.tail.tail.tail)
         clear qGKSJ0
         have qGKSJ1 := ((((((yGKS.pk [2, 0, 1, 3, 4, 5]).set_ 0 (.string ⟨k2.toArray⟩)).set_ 1 (.int .i64 0)).set_ 2 (.slice A1 C.length n1)).set_ 3 (.slice A2 T.length n2)).alloc 23 #[.string ⟨#[]⟩, .int .i64 0, .int .i64 0])
         have sfGKSJ1 := hS _ _ (qGKSJ1.tail.tail.tail.tail.tail.tail)
         clear qGKSJ1
         have qGKSJ2 := ((((((yGKS.pk [2, 0, 1, 3, 4, 5]).set_ 0 (.string ⟨k2.toArray⟩)).set_ 1 (.int .i64 0)).set_ 2 (.slice A1 C.length n1)).set_ 3 (.slice A2 T.length n2)).alloc 23 #[.string ⟨S.toArray⟩, .int .i64 1, .int .i64 1])
         have sfGKSJ2 := hS _ _ (qGKSJ2.tail.tail.tail.tail.tail.tail)
         clear qGKSJ2
         obtain ⟨_, _, _, _, _, _, _, _⟩ := bk4 yGKS.tail.tail.blk); go_wp2_with fail
        refine hK.out _ _ (by with_reducible exact sfGKS) fun hH31 => ?_
        clear hK K hH30
        try simp only [pu]
        refine tk 11 56 hH31 ?_
        refine tk 12 68 hH31 ?_
        refine tk 13 69 hH31 ?_
        refine tk 14 70 hH31 ?_
        refine rdy [16] ?_
        refine an 13 fun K hK => ?_
        go_simp
        refine hK.out _ _ (by with_reducible exact sfGKSJ) fun hH32 => ?_
        clear hK K hH31
        try simp only [pu]
        refine rdy [17] ?_
        refine az fun K hK => ?_
        go_simp
        refine hK.out _ _ (by with_reducible exact sfGKSJ1) fun hH33 => ?_
        clear hK K hH32
        try simp only [pu]
        refine rdy [18] ?_
        refine az fun K hK => ?_
        go_simp
        refine hK.out _ _ (by with_reducible exact sfGKSJ2) fun hH34 => ?_
        clear hK K hH33
        try simp only [pu]
        refine tk 19 14 hH34 ?_
        refine dn ?_ _
        rotate_left 1
        refine an 13 fun K hK => ?_
        go_simp
        refine hK.out _ _ (by with_reducible exact sfGKJ) fun hH35 => ?_
        clear hK K hH30
        try simp only [pu]
        refine rdy [10] ?_
        refine an 67 fun K hK => ?_
        go_simp; (
         (with_reducible refine (ks _).mono ?_)
         rintro e wGKJS ⟨ua, ub, rfl, t2⟩
         obtain ⟨A1, n1, rfl, _, _⟩ := own_form t2.own
         obtain ⟨A2, n2, rfl, _, _⟩ := own_form t2.tail.own
         have yGKJS := (yGK.alloc 23 #[.string ⟨#[]⟩, .int .i64 0, .int .i64 0]).join t2
         try simp only [World.size_alloc] at yGKJS
         have ltG := (yGKJS.tail.tail.tail).blk.lt
         have neG : ¬ (wGKJS.heap.size = wr.heap.size) := Nat.ne_of_gt ltG
         have ltJ := (yGKJS.tail.tail).blk.lt
         have neJ : ¬ (wGKJS.heap.size = wGK.heap.size) := Nat.ne_of_gt ltJ
         have ltGJ : wr.heap.size < wGK.heap.size := by first | exact (yGK).blk.lt | (have := (yGK).blk.lt; simp only [World.size_alloc] at this; exact this) | (have := (yGK).blk.lt; simp only [World.size_drew, World.size_alloc] at this; exact this)
         have neGJ : ¬ (wr.heap.size = wGK.heap.size) := Nat.ne_of_lt ltGJ
         have neJG : ¬ (wGK.heap.size = wr.heap.size) := Nat.ne_of_gt ltGJ
         have sfGKJS := hS _ _ (yGKJS.tail.tail.tail.tail.tail.tail)
         have qGKJS1 := (((((yGKJS.pk [3, 0, 1, 2, 4, 5, 6]).set_ 0 (.string ⟨k2.toArray⟩)).set_ 1 (.int .i64 0)).set_ 2 (.slice A1 C.length n1)).set_ 3 (.slice A2 T.length n2))
         have sfGKJS1 := hS _ _ (qGKJS1.tail.tail.tail.tail.tail.tail)
         clear qGKJS1
         have qGKJS2 := (((((((((yGKJS.pk [3, 0, 1, 2, 4, 5, 6]).set_ 0 (.string ⟨k2.toArray⟩)).set_ 1 (.int .i64 0)).set_ 2 (.slice A1 C.length n1)).set_ 3 (.slice A2 T.length n2)).pk [3, 0, 1, 2, 4, 5, 6]).set_ 0 (.string ⟨S.toArray⟩)).set_ 1 (.int .i64 1)).set_ 2 (.int .i64 1))
         have sfGKJS2 := hS _ _ (qGKJS2.tail.tail.tail.tail.tail.tail)
         clear qGKJS2
         obtain ⟨_, _, _, _, _, _, _, _⟩ := bk4 yGKJS.tail.tail.tail.blk
         obtain ⟨_, _, _, _, _, _⟩ := bk3 yGKJS.tail.tail.blk); go_wp2_with fail
        refine hK.out _ _ (by with_reducible exact sfGKJS) fun hH36 => ?_
        clear hK K hH35
        try simp only [pu]
        refine tk 11 56 hH36 ?_
        refine tk 12 68 hH36 ?_
        refine tk 13 69 hH36 ?_
        refine tk 14 70 hH36 ?_
        refine rdy [17] ?_
        refine az fun K hK => ?_
        go_simp
        refine hK.out _ _ (by with_reducible exact sfGKJS1) fun hH37 => ?_
        clear hK K hH36
        try simp only [pu]
        refine rdy [18] ?_
        refine az fun K hK => ?_
        go_simp
        refine hK.out _ _ (by with_reducible exact sfGKJS2) fun hH38 => ?_
        clear hK K hH37
        try simp only [pu]
        refine tk 19 14 hH38 ?_
        refine dn ?_ _
        rotate_left 1
        refine an 13 fun K hK => ?_
        go_simp
        refine hK.out _ _ (by with_reducible exact sfGJ) fun hH39 => ?_
        clear hK K hH29
        try simp only [pu]
        refine rdy [4] ?_
        refine an 61 fun K hK => ?_
        go_simp; (
         (with_reducible refine (kk _).mono ?_)
         rintro e wGJK ⟨rfl, bK⟩
         have yGJK := ((h.alloc 41 #[.string ⟨#[]⟩, .int .i64 0, .slice none 0 0, .slice none 0 0]).alloc 23 #[.string ⟨#[]⟩, .int .i64 0, .int .i64 0]).drew.under bK
         try simp only [World.size_alloc] at yGJK
         have sfGJK := hS _ _ (yGJK.tail.tail.tail.tail)); go_wp2_with fail
        refine hK.out _ _ (by with_reducible exact sfGJK) fun hH40 => ?_
        clear hK K hH39
        try simp only [pu]
        refine rdy [10] ?_
        refine an 67 fun K hK => ?_
        go_simp; (
         (with_reducible refine (ks _).mono ?_)
         rintro e wGJKS ⟨ua, ub, rfl, t2⟩
         obtain ⟨A1, n1, rfl, _, _⟩ := own_form t2.own
         obtain ⟨A2, n2, rfl, _, _⟩ := own_form t2.tail.own
         have yGJKS := yGJK.join t2
         try simp only [World.size_alloc] at yGJKS
         have ltG := (yGJKS.tail.tail.tail).blk.lt
         have neG : ¬ (wGJKS.heap.size = wr.heap.size) := Nat.ne_of_gt ltG
         have ltJ := (yGJKS.tail.tail).blk.lt
         have neJ : ¬ (wGJKS.heap.size = wr.heap.size + 1) := Nat.ne_of_gt ltJ
         have ltGJ : wr.heap.size < wr.heap.size + 1 := by first | exact ((h.alloc 41 #[.string ⟨#[]⟩, .int .i64 0, .slice none 0 0, .slice none 0 0]).drew).blk.lt | (have := ((h.alloc 41 #[.string ⟨#[]⟩, .int .i64 0, .slice none 0 0, .slice none 0 0]).drew).blk.lt; simp only [World.size_alloc] at this; exact this) | (have := ((h.alloc 41 #[.string ⟨#[]⟩, .int .i64 0, .slice none 0 0, .slice none 0 0]).drew).blk.lt; simp only [World.size_drew, World.size_alloc] at this; exact this)
         have neGJ : ¬ (wr.heap.size = wr.heap.size + 1) := Nat.ne_of_lt ltGJ
         have neJG : ¬ (wr.heap.size + 1 = wr.heap.size) := Nat.ne_of_gt ltGJ
         have sfGJKS := hS _ _ (yGJKS.tail.tail.tail.tail.tail.tail)
         have qGJKS1 := (((((yGJKS.pk [3, 0, 1, 2, 4, 5, 6]).set_ 0 (.string ⟨k2.toArray⟩)).set_ 1 (.int .i64 0)).set_ 2 (.slice A1 C.length n1)).set_ 3 (.slice A2 T.length n2))
         have sfGJKS1 := hS _ _ (qGJKS1.tail.tail.tail.tail.tail.tail)
         clear qGJKS1
         have qGJKS2 := (((((((((yGJKS.pk [3, 0, 1, 2, 4, 5, 6]).set_ 0 (.string ⟨k2.toArray⟩)).set_ 1 (.int .i64 0)).set_ 2 (.slice A1 C.length n1)).set_ 3 (.slice A2 T.length n2)).pk [3, 0, 1, 2, 4, 5, 6]).set_ 0 (.string ⟨S.toArray⟩)).set_ 1 (.int .i64 1)).set_ 2 (.int .i64 1))
         have sfGJKS2 := hS _ _ (qGJKS2.tail.tail.tail.tail.tail.tail)
         clear qGJKS2
         obtain ⟨_, _, _, _, _, _, _, _⟩ := bk4 yGJKS.tail.tail.tail.blk
         obtain ⟨_, _, _, _, _, _⟩ := bk3 yGJKS.tail.tail.blk); go_wp2_with fail
        refine hK.out _ _ (by with_reducible exact sfGJKS) fun hH41 => ?_
        clear hK K hH40
        try simp only [pu]
        refine tk 11 56 hH41 ?_
        refine tk 12 68 hH41 ?_
        refine tk 13 69 hH41 ?_
        refine tk 14 70 hH41 ?_
        refine rdy [17] ?_
        refine az fun K hK => ?_
        go_simp
        refine hK.out _ _ (by with_reducible exact sfGJKS1) fun hH42 => ?_
        clear hK K hH41
        try simp only [pu]
        refine rdy [18] ?_
        refine az fun K hK => ?_
        go_simp
        refine hK.out _ _ (by with_reducible exact sfGJKS2) fun hH43 => ?_
        clear hK K hH42
        try simp only [pu]
        refine tk 19 14 hH43 ?_
        refine dn ?_ _
        rotate_left 1
        refine an 13 fun K hK => ?_
        go_simp
        refine hK.out _ _ (by with_reducible exact sfJ) fun hH44 => ?_
        clear hK K hH0
        try simp only [pu]
        refine rdy [4, 15] ?_
        refine ad 61 (fun K hK => ?_) ?_
        go_simp; (
         (with_reducible refine (kk _).mono ?_)
         rintro e wJK ⟨rfl, bK⟩
         have yJK := (h.alloc 23 #[.string ⟨#[]⟩, .int .i64 0, .int .i64 0]).drew.under bK
         have sfJK := hS _ _ (yJK.tail.tail.tail)
         have qJKG0 := (yJK.alloc 41 #[.string ⟨#[]⟩, .int .i64 0, .slice none 0 0, .slice none 0 0])
         have sfJKG := hS _ _ (qJKG0.tail.tail.tail.tail)
         clear qJKG0); go_wp2_with fail
        refine hK.out _ _ (by with_reducible exact sfJK) fun hH45 => ?_
        clear hK K hH44
        try simp only [pu]
        refine rdy [10, 15] ?_
        refine ad 67 (fun K hK => ?_) ?_
        go_simp; (
         (with_reducible refine (ks _).mono ?_)
         rintro e wJKS ⟨ua, ub, rfl, t2⟩
         obtain ⟨A1, n1, rfl, _, _⟩ := own_form t2.own
         obtain ⟨A2, n2, rfl, _, _⟩ := own_form t2.tail.own
         have yJKS := yJK.join t2
         have ltJ := (yJKS.tail.tail).blk.lt
         have neJ : ¬ (wJKS.heap.size = wr.heap.size) := Nat.ne_of_gt ltJ
         have sfJKS := hS _ _ (yJKS.tail.tail.tail.tail.tail)
         have qJKSG0 := (yJKS.alloc 41 #[.string ⟨#[]⟩, .int .i64 0, .slice none 0 0, .slice none 0 0])
         have sfJKSG := hS _ _ (qJKSG0.tail.tail.tail.tail.tail.tail)
         clear qJKSG0
         have qJKSG1 := (yJKS.alloc 41 #[.string ⟨k2.toArray⟩, .int .i64 0, .slice A1 C.length n1, .slice A2 T.length n2])
         have sfJKSG1 := hS _ _ (qJKSG1.tail.tail.tail.tail.tail.tail)
         clear qJKSG1
         have qJKSG2 := (((((yJKS.pk [2, 0, 1, 3, 4, 5]).set_ 0 (.string ⟨S.toArray⟩)).set_ 1 (.int .i64 1)).set_ 2 (.int .i64 1)).alloc 41 #[.string ⟨k2.toArray⟩, .int .i64 0, .slice A1 C.length n1, .slice A2 T.length n2])
         have sfJKSG2 := hS _ _ (qJKSG2.tail.tail.tail.tail.tail.tail)
         clear qJKSG2
         obtain ⟨_, _, _, _, _, _⟩ := bk3 yJKS.tail.tail.blk); go_wp2_with fail
        refine hK.out _ _ (by with_reducible exact sfJKS) fun hH46 => ?_
        clear hK K hH45
        try simp only [pu]
        refine tk 11 56 hH46 ?_
        refine tk 12 68 hH46 ?_
        refine tk 13 69 hH46 ?_
        refine tk 14 70 hH46 ?_
        refine rdy [15] ?_
        refine an 12 fun K hK => ?_
        go_simp
        refine hK.out _ _ (by with_reducible exact sfJKSG) fun hH47 => ?_
        clear hK K hH46
        try simp only [pu]
        refine rdy [17] ?_
        refine az fun K hK => ?_
        go_simp
        refine hK.out _ _ (by with_reducible exact sfJKSG1) fun hH48 => ?_
        clear hK K hH47
        try simp only [pu]
        refine rdy [18] ?_
        refine az fun K hK => ?_
        go_simp
        refine hK.out _ _ (by with_reducible exact sfJKSG2) fun hH49 => ?_
        clear hK K hH48
        try simp only [pu]
        refine tk 19 14 hH49 ?_
        refine dn ?_ _
        rotate_left 1
        refine an 12 fun K hK => ?_
        go_simp
        refine hK.out _ _ (by with_reducible exact sfJKG) fun hH50 => ?_
        clear hK K hH45
        try simp only [pu]
        refine rdy [10] ?_
        refine an 67 fun K hK => ?_
        go_simp; (
         (with_reducible refine (ks _).mono ?_)
         rintro e wJKGS ⟨ua, ub, rfl, t2⟩
         obtain ⟨A1, n1, rfl, _, _⟩ := own_form t2.own
         obtain ⟨A2, n2, rfl, _, _⟩ := own_form t2.tail.own
         have yJKGS := (yJK.alloc 41 #[.string ⟨#[]⟩, .int .i64 0, .slice none 0 0, .slice none 0 0]).join t2
         try simp only [World.size_alloc] at yJKGS
         have ltG := (yJKGS.tail.tail).blk.lt
         have neG : ¬ (wJKGS.heap.size = wJK.heap.size) := Nat.ne_of_gt ltG
         have ltJ := (yJKGS.tail.tail.tail).blk.lt
         have neJ : ¬ (wJKGS.heap.size = wr.heap.size) := Nat.ne_of_gt ltJ
         have ltJG : wr.heap.size < wJK.heap.size := by first | exact (yJK).blk.lt | (have := (yJK).blk.lt; simp only [World.size_alloc] at this; exact this) | (have := (yJK).blk.lt; simp only [World.size_drew, World.size_alloc] at this; exact this)
         have neJG : ¬ (wr.heap.size = wJK.heap.size) := Nat.ne_of_lt ltJG
         have neGJ : ¬ (wJK.heap.size = wr.heap.size) := Nat.ne_of_gt ltJG
         have sfJKGS := hS _ _ (yJKGS.tail.tail.tail.tail.tail.tail)
         have qJKGS1 := (((((yJKGS.pk [2, 0, 1, 3, 4, 5, 6]).set_ 0 (.string ⟨k2.toArray⟩)).set_ 1 (.int .i64 0)).set_ 2 (.slice A1 C.length n1)).set_ 3 (.slice A2 T.length n2))
         have sfJKGS1 := hS _ _ (qJKGS1.tail.tail.tail.tail.tail.tail)
         clear qJKGS1
         have qJKGS2 := (((((((((yJKGS.pk [2, 0, 1, 3, 4, 5, 6]).set_ 0 (.string ⟨k2.toArray⟩)).set_ 1 (.int .i64 0)).set_ 2 (.slice A1 C.length n1)).set_ 3 (.slice A2 T.length n2)).pk [3, 0, 1, 2, 4, 5, 6]).set_ 0 (.string ⟨S.toArray⟩)).set_ 1 (.int .i64 1)).set_ 2 (.int .i64 1))
         have sfJKGS2 := hS _ _ (qJKGS2.tail.tail.tail.tail.tail.tail)
         clear qJKGS2
         obtain ⟨_, _, _, _, _, _, _, _⟩ := bk4 yJKGS.tail.tail.blk
         obtain ⟨_, _, _, _, _, _⟩ := bk3 yJKGS.tail.tail.tail.blk); go_wp2_with fail
        refine hK.out _ _ (by with_reducible exact sfJKGS) fun hH51 => ?_
        clear hK K hH50
        try simp only [pu]
        refine tk 11 56 hH51 ?_
        refine tk 12 68 hH51 ?_
        refine tk 13 69 hH51 ?_
        refine tk 14 70 hH51 ?_
        refine rdy [17] ?_
        refine az fun K hK => ?_
        go_simp
        refine hK.out _ _ (by with_reducible exact sfJKGS1) fun hH52 => ?_
        clear hK K hH51
        try simp only [pu]
        refine rdy [18] ?_
        refine az fun K hK => ?_
        go_simp
        refine hK.out _ _ (by with_reducible exact sfJKGS2) fun hH53 => ?_
        clear hK K hH52
        try simp only [pu]
        refine tk 19 14 hH53 ?_
        refine dn ?_ _
        rotate_left 1
        refine an 12 fun K hK => ?_
        go_simp
        refine hK.out _ _ (by with_reducible exact sfJG) fun hH54 => ?_
        clear hK K hH44
        try simp only [pu]
        refine rdy [4] ?_
        refine an 61 fun K hK => ?_
        go_simp; (
         (with_reducible refine (kk _).mono ?_)
         rintro e wJGK ⟨rfl, bK⟩
         have yJGK := ((h.alloc 23 #[.string ⟨#[]⟩, .int .i64 0, .int .i64 0]).alloc 41 #[.string ⟨#[]⟩, .int .i64 0, .slice none 0 0, .slice none 0 0]).drew.under bK
         try simp only [World.size_alloc] at yJGK
         have sfJGK := hS _ _ (yJGK.tail.tail.tail.tail)); go_wp2_with fail
        refine hK.out _ _ (by with_reducible exact sfJGK) fun hH55 => ?_
        clear hK K hH54
        try simp only [pu]
        refine rdy [10] ?_
        refine an 67 fun K hK => ?_
        go_simp; (
         (with_reducible refine (ks _).mono ?_)
         rintro e wJGKS ⟨ua, ub, rfl, t2⟩
         obtain ⟨A1, n1, rfl, _, _⟩ := own_form t2.own
         obtain ⟨A2, n2, rfl, _, _⟩ := own_form t2.tail.own
         have yJGKS := yJGK.join t2
         try simp only [World.size_alloc] at yJGKS
         have ltG := (yJGKS.tail.tail).blk.lt
         have neG : ¬ (wJGKS.heap.size = wr.heap.size + 1) := Nat.ne_of_gt ltG
         have ltJ := (yJGKS.tail.tail.tail).blk.lt
         have neJ : ¬ (wJGKS.heap.size = wr.heap.size) := Nat.ne_of_gt ltJ
         have ltJG : wr.heap.size < wr.heap.size + 1 := by first | exact ((h.alloc 23 #[.string ⟨#[]⟩, .int .i64 0, .int .i64 0]).drew).blk.lt | (have := ((h.alloc 23 #[.string ⟨#[]⟩, .int .i64 0, .int .i64 0]).drew).blk.lt; simp only [World.size_alloc] at this; exact this) | (have := ((h.alloc 23 #[.string ⟨#[]⟩, .int .i64 0, .int .i64 0]).drew).blk.lt; simp only [World.size_drew, World.size_alloc] at this; exact this)
         have neJG : ¬ (wr.heap.size = wr.heap.size + 1) := Nat.ne_of_lt ltJG
         have neGJ : ¬ (wr.heap.size + 1 = wr.heap.size) := Nat.ne_of_gt ltJG
         have sfJGKS := hS _ _ (yJGKS.tail.tail.tail.tail.tail.tail)
         have qJGKS1 := (((((yJGKS.pk [2, 0, 1, 3, 4, 5, 6]).set_ 0 (.string ⟨k2.toArray⟩)).set_ 1 (.int .i64 0)).set_ 2 (.slice A1 C.length n1)).set_ 3 (.slice A2 T.length n2))
         have sfJGKS1 := hS _ _ (qJGKS1.tail.tail.tail.tail.tail.tail)
         clear qJGKS1
         have qJGKS2 := (((((((((yJGKS.pk [2, 0, 1, 3, 4, 5, 6]).set_ 0 (.string ⟨k2.toArray⟩)).set_ 1 (.int .i64 0)).set_ 2 (.slice A1 C.length n1)).set_ 3 (.slice A2 T.length n2)).pk [3, 0, 1, 2, 4, 5, 6]).set_ 0 (.string ⟨S.toArray⟩)).set_ 1 (.int .i64 1)).set_ 2 (.int .i64 1))
         have sfJGKS2 := hS _ _ (qJGKS2.tail.tail.tail.tail.tail.tail)
         clear qJGKS2
         obtain ⟨_, _, _, _, _, _, _, _⟩ := bk4 yJGKS.tail.tail.blk
         obtain ⟨_, _, _, _, _, _⟩ := bk3 yJGKS.tail.tail.tail.blk); go_wp2_with fail
        refine hK.out _ _ (by with_reducible exact sfJGKS) fun hH56 => ?_
        clear hK K hH55
        try simp only [pu]
        refine tk 11 56 hH56 ?_
        refine tk 12 68 hH56 ?_
        refine tk 13 69 hH56 ?_
        refine tk 14 70 hH56 ?_
        refine rdy [17] ?_
        refine az fun K hK => ?_
        go_simp
        refine hK.out _ _ (by with_reducible exact sfJGKS1) fun hH57 => ?_
        clear hK K hH56
        try simp only [pu]
        refine rdy [18] ?_
        refine az fun K hK => ?_
        go_simp
        refine hK.out _ _ (by with_reducible exact sfJGKS2) fun hH58 => ?_
        clear hK K hH57
        try simp only [pu]
        refine tk 19 14 hH58 ?_
        refine dn ?_ _
        all_goals (refine NoPanic.normal ?_)
        all_goals
         first
          | (have yF := ((yKS.alloc 41 #[.string ⟨k2.toArray⟩, .int .i64 0, .slice A1 C.length n1, .slice A2 T.length n2]).alloc 23 #[.string ⟨S.toArray⟩, .int .i64 1, .int .i64 1]).pk [1, 0, 2, 3, 4, 5, 6]
             try simp only [ws] at yF
             obtain ⟨pJ, hpJ⟩ : ∃ q, wKS.heap.size + 1 = q := ⟨_, rfl⟩
             rw [hpJ] at yF ⊢
             obtain ⟨pG, hpG⟩ : ∃ q, wKS.heap.size = q := ⟨_, rfl⟩
             rw [hpG] at yF ⊢
             exact ⟨rfl, pG, pJ, A1, A2, n1, n2, rfl, yF⟩)
          | (have yF := ((yKS.alloc 23 #[.string ⟨S.toArray⟩, .int .i64 1, .int .i64 1]).alloc 41 #[.string ⟨k2.toArray⟩, .int .i64 0, .slice A1 C.length n1, .slice A2 T.length n2]).pk [0, 1, 2, 3, 4, 5, 6]
             try simp only [ws] at yF
             obtain ⟨pG, hpG⟩ : ∃ q, wKS.heap.size + 1 = q := ⟨_, rfl⟩
             rw [hpG] at yF ⊢
             obtain ⟨pJ, hpJ⟩ : ∃ q, wKS.heap.size = q := ⟨_, rfl⟩
             rw [hpJ] at yF ⊢
             exact ⟨rfl, pG, pJ, A1, A2, n1, n2, rfl, yF⟩)
          | (have yF := ((((((yKGS.pk [2, 0, 1, 3, 4, 5]).set_ 0 (.string ⟨k2.toArray⟩)).set_ 1 (.int .i64 0)).set_ 2 (.slice A1 C.length n1)).set_ 3 (.slice A2 T.length n2)).alloc 23 #[.string ⟨S.toArray⟩, .int .i64 1, .int .i64 1]).pk [1, 0, 2, 3, 4, 5, 6]
             try simp only [ws] at yF
             obtain ⟨pJ, hpJ⟩ : ∃ q, wKGS.heap.size = q := ⟨_, rfl⟩
             rw [hpJ] at yF ⊢
             obtain ⟨pG, hpG⟩ : ∃ q, wK.heap.size = q := ⟨_, rfl⟩
             rw [hpG] at yF ⊢
             exact ⟨rfl, pG, pJ, A1, A2, n1, n2, rfl, yF⟩)
          | (have yF := (((((((((yKGJS.pk [3, 0, 1, 2, 4, 5, 6]).set_ 0 (.string ⟨k2.toArray⟩)).set_ 1 (.int .i64 0)).set_ 2 (.slice A1 C.length n1)).set_ 3 (.slice A2 T.length n2)).pk [3, 0, 1, 2, 4, 5, 6]).set_ 0 (.string ⟨S.toArray⟩)).set_ 1 (.int .i64 1)).set_ 2 (.int .i64 1)).pk [1, 0, 2, 3, 4, 5, 6]
             try simp only [ws] at yF
             obtain ⟨pJ, hpJ⟩ : ∃ q, wK.heap.size + 1 = q := ⟨_, rfl⟩
             rw [hpJ] at yF ⊢
             obtain ⟨pG, hpG⟩ : ∃ q, wK.heap.size = q := ⟨_, rfl⟩
             rw [hpG] at yF ⊢
             exact ⟨rfl, pG, pJ, A1, A2, n1, n2, rfl, yF⟩)
          | (have yF := (((((yKJS.pk [2, 0, 1, 3, 4, 5]).set_ 0 (.string ⟨S.toArray⟩)).set_ 1 (.int .i64 1)).set_ 2 (.int .i64 1)).alloc 41 #[.string ⟨k2.toArray⟩, .int .i64 0, .slice A1 C.length n1, .slice A2 T.length n2]).pk [0, 1, 2, 3, 4, 5, 6]
             try simp only [ws] at yF
             obtain ⟨pG, hpG⟩ : ∃ q, wKJS.heap.size = q := ⟨_, rfl⟩
             rw [hpG] at yF ⊢
             obtain ⟨pJ, hpJ⟩ : ∃ q, wK.heap.size = q := ⟨_, rfl⟩
             rw [hpJ] at yF ⊢
             exact ⟨rfl, pG, pJ, A1, A2, n1, n2, rfl, yF⟩)
          | (have yF := (((((((((yKJGS.pk [2, 0, 1, 3, 4, 5, 6]).set_ 0 (.string ⟨k2.toArray⟩)).set_ 1 (.int .i64 0)).set_ 2 (.slice A1 C.length n1)).set_ 3 (.slice A2 T.length n2)).pk [3, 0, 1, 2, 4, 5, 6]).set_ 0 (.string ⟨S.toArray⟩)).set_ 1 (.int .i64 1)).set_ 2 (.int .i64 1)).pk [1, 0, 2, 3, 4, 5, 6]
             try simp only [ws] at yF
             obtain ⟨pG, hpG⟩ : ∃ q, wK.heap.size + 1 = q := ⟨_, rfl⟩
             rw [hpG] at yF ⊢
             obtain ⟨pJ, hpJ⟩ : ∃ q, wK.heap.size = q := ⟨_, rfl⟩
             rw [hpJ] at yF ⊢
             exact ⟨rfl, pG, pJ, A1, A2, n1, n2, rfl, yF⟩)
          | (have yF := ((((((yGKS.pk [2, 0, 1, 3, 4, 5]).set_ 0 (.string ⟨k2.toArray⟩)).set_ 1 (.int .i64 0)).set_ 2 (.slice A1 C.length n1)).set_ 3 (.slice A2 T.length n2)).alloc 23 #[.string ⟨S.toArray⟩, .int .i64 1, .int .i64 1]).pk [1, 0, 2, 3, 4, 5, 6]
             try simp only [ws] at yF
             obtain ⟨pJ, hpJ⟩ : ∃ q, wGKS.heap.size = q := ⟨_, rfl⟩
             rw [hpJ] at yF ⊢
             obtain ⟨pG, hpG⟩ : ∃ q, wr.heap.size = q := ⟨_, rfl⟩
             rw [hpG] at yF ⊢
             exact ⟨rfl, pG, pJ, A1, A2, n1, n2, rfl, yF⟩)
          | (have yF := (((((((((yGKJS.pk [3, 0, 1, 2, 4, 5, 6]).set_ 0 (.string ⟨k2.toArray⟩)).set_ 1 (.int .i64 0)).set_ 2 (.slice A1 C.length n1)).set_ 3 (.slice A2 T.length n2)).pk [3, 0, 1, 2, 4, 5, 6]).set_ 0 (.string ⟨S.toArray⟩)).set_ 1 (.int .i64 1)).set_ 2 (.int .i64 1)).pk [1, 0, 2, 3, 4, 5, 6]
             try simp only [ws] at yF
             obtain ⟨pJ, hpJ⟩ : ∃ q, wGK.heap.size = q := ⟨_, rfl⟩
             rw [hpJ] at yF ⊢
             obtain ⟨pG, hpG⟩ : ∃ q, wr.heap.size = q := ⟨_, rfl⟩
             rw [hpG] at yF ⊢
             exact ⟨rfl, pG, pJ, A1, A2, n1, n2, rfl, yF⟩)
          | (have yF := (((((((((yGJKS.pk [3, 0, 1, 2, 4, 5, 6]).set_ 0 (.string ⟨k2.toArray⟩)).set_ 1 (.int .i64 0)).set_ 2 (.slice A1 C.length n1)).set_ 3 (.slice A2 T.length n2)).pk [3, 0, 1, 2, 4, 5, 6]).set_ 0 (.string ⟨S.toArray⟩)).set_ 1 (.int .i64 1)).set_ 2 (.int .i64 1)).pk [1, 0, 2, 3, 4, 5, 6]
             try simp only [ws] at yF
             obtain ⟨pJ, hpJ⟩ : ∃ q, wr.heap.size + 1 = q := ⟨_, rfl⟩
             rw [hpJ] at yF ⊢
             obtain ⟨pG, hpG⟩ : ∃ q, wr.heap.size = q := ⟨_, rfl⟩
             rw [hpG] at yF ⊢
             exact ⟨rfl, pG, pJ, A1, A2, n1, n2, rfl, yF⟩)
          | (have yF := (((((yJKS.pk [2, 0, 1, 3, 4, 5]).set_ 0 (.string ⟨S.toArray⟩)).set_ 1 (.int .i64 1)).set_ 2 (.int .i64 1)).alloc 41 #[.string ⟨k2.toArray⟩, .int .i64 0, .slice A1 C.length n1, .slice A2 T.length n2]).pk [0, 1, 2, 3, 4, 5, 6]
             try simp only [ws] at yF
             obtain ⟨pG, hpG⟩ : ∃ q, wJKS.heap.size = q := ⟨_, rfl⟩
             rw [hpG] at yF ⊢
             obtain ⟨pJ, hpJ⟩ : ∃ q, wr.heap.size = q := ⟨_, rfl⟩
             rw [hpJ] at yF ⊢
             exact ⟨rfl, pG, pJ, A1, A2, n1, n2, rfl, yF⟩)
          | (have yF := (((((((((yJKGS.pk [2, 0, 1, 3, 4, 5, 6]).set_ 0 (.string ⟨k2.toArray⟩)).set_ 1 (.int .i64 0)).set_ 2 (.slice A1 C.length n1)).set_ 3 (.slice A2 T.length n2)).pk [3, 0, 1, 2, 4, 5, 6]).set_ 0 (.string ⟨S.toArray⟩)).set_ 1 (.int .i64 1)).set_ 2 (.int .i64 1)).pk [1, 0, 2, 3, 4, 5, 6]
             try simp only [ws] at yF
             obtain ⟨pG, hpG⟩ : ∃ q, wJK.heap.size = q := ⟨_, rfl⟩
             rw [hpG] at yF ⊢
             obtain ⟨pJ, hpJ⟩ : ∃ q, wr.heap.size = q := ⟨_, rfl⟩
             rw [hpJ] at yF ⊢
             exact ⟨rfl, pG, pJ, A1, A2, n1, n2, rfl, yF⟩)
          | (have yF := (((((((((yJGKS.pk [2, 0, 1, 3, 4, 5, 6]).set_ 0 (.string ⟨k2.toArray⟩)).set_ 1 (.int .i64 0)).set_ 2 (.slice A1 C.length n1)).set_ 3 (.slice A2 T.length n2)).pk [3, 0, 1, 2, 4, 5, 6]).set_ 0 (.string ⟨S.toArray⟩)).set_ 1 (.int .i64 1)).set_ 2 (.int .i64 1)).pk [1, 0, 2, 3, 4, 5, 6]
             try simp only [ws] at yF
             obtain ⟨pG, hpG⟩ : ∃ q, wr.heap.size + 1 = q := ⟨_, rfl⟩
             rw [hpG] at yF ⊢
             obtain ⟨pJ, hpJ⟩ : ∃ q, wr.heap.size = q := ⟨_, rfl⟩
             rw [hpJ] at yF ⊢
             exact ⟨rfl, pG, pJ, A1, A2, n1, n2, rfl, yF⟩)
       case k =>
        rintro pG pJ A1 A2 n1 n2 w7 y7
        obtain ⟨u1, u2⟩ : C.length ≤ n1 ∧ n1 ≤ maxLen := by (obtain ⟨_, _, e, q1, q2⟩ := own_form y7.tail.tail.own; injection e with _ _ e; subst e; exact ⟨q1, q2⟩)
        obtain ⟨u3, u4⟩ : T.length ≤ n2 ∧ n2 ≤ maxLen := by (obtain ⟨_, _, e, q1, q2⟩ := own_form y7.tail.tail.tail.own; injection e with _ _ e; subst e; exact ⟨q1, q2⟩)
        have g0 := y7.blk.cell 0
        have g1 := y7.blk.cell 1
        have g2 := y7.blk.cell 2
        have g3 := y7.blk.cell 3
        have Y8 := Lib.hid (And.intro (y7.pk [4, 5, 6, 2, 3]) (And.intro u1 (And.intro u2 (And.intro u3 u4))))
        clear y7 u1 u2 u3 u4 hS kk ks h
        go_wp2_with (at_builtin; go_must (refine appendRow 47 (te := 41) #[.string ⟨k2.toArray⟩, .int .i64 0, .slice A1 C.length n1, .slice A2 T.length n2] Y8.out.1 Tryz.underlying47 info_rot rfl (by decide) rfl _ _ rfl rfl rfl rfl (by intro u hu; simp at hu; rcases hu with rfl | rfl | rfl | rfl <;> rfl) q2 q1 ?_); intro v8 w8 y8)
        have y9 := (St.rows1 ⟨k2, 0, A1, C, n1, A2, T, n2⟩ (y8.pk [1, 3, 4, 0, 2])).pk [1, 0, 2]
        clear y8 g0 g1 g2 g3
        have Y9 := Lib.hid y9
        have hcap2 : ∀ x ∈ R ++ [(⟨k2, 0, A1, C, n1, A2, T, n2⟩ : SgRow)], RowCap x := fun x hx => by
         rcases List.mem_append.1 hx with hx | hx
         ·exact HQ.out.2.1 x hx
         ·rw [List.mem_singleton.1 hx]
          exact Y8.out.2
        have hst2 : (R ++ [(⟨k2, 0, A1, C, n1, A2, T, n2⟩ : SgRow)]).map stripR = rots (L.take (j + 1 + 1)) := by
         rw [List.map_append, HQ.out.1, HQ.out.2.2.1]
         rfl
        have H2 := Lib.hid (And.intro hcap2 hst2)
        clear y9 hcap2 hst2
        go_wp2
        go_roundw
        case rel => exact ⟨j + 1, R ++ [⟨k2, 0, A1, C, n1, A2, T, n2⟩], HQ.out.2.2.2.1, by go_num, H2.out.2, H2.out.1, by (rw [flatC_snoc]; exact Y9.out)⟩
        case measure => have := HQ.out.2.2.2.1; simp [intOf]; omega
      ·obtain rfl : p = j := (Nat.le_antisymm hj (Nat.le_of_not_lt hlt)).symm
       clear hlt hj
       have hL1 := HL.out.1
       have hlen : R.length = p := by
        have := congrArg List.length hs
        rw [List.length_map, rots_len, List.length_take, hL1] at this
        omega
       have hRs : R.map stripR = rots L := by rw [hs, List.take_of_length_le (by rw [hL1]; omega)]
       obtain ⟨X, c, rfl, hc1, hc2⟩ := own_form h.own
       obtain ⟨xb, rfl⟩ : ∃ xb, X = some ⟨xb, 0, none⟩ := own_some h.own (by omega)
       have hL2 : 2 ≤ L.length := by omega
       obtain ⟨k0, ek0⟩ : ∃ k0, pk1 (L[0]'(by omega)) = k0 := ⟨_, rfl⟩
       obtain ⟨ke, eke⟩ : ∃ ke, pk1 (L[L.length - 1]'(by omega)) = ke := ⟨_, rfl⟩
       have hR10 : R.length ≤ 1024 := by have := HL.out.2.2.1; omega
       have hFk : followR k0 R = (ke, 0) := by subst ek0 eke; exact follow_all L hL2 R hRs hR10
       have hFs : ∀ i, i < R.length → followR k0 (R.modify i spoil) = ([], 18) := fun i hi => by subst ek0; exact follow_bad L hL2 R hRs hR10 i hi
       have hk0 : ∀ W Rs, St w.heap.size w W (ownR 9 1 (.slice (some ⟨kb, 0, none⟩) N kc) N (strs (L.map pk1)) :: Rs) → W.cell? ⟨kb, 0, none⟩ = some (.string ⟨k0.toArray⟩) := fun W Rs hh => by subst ek0; exact rd_key_at (Rd.of_own hh.own) (by omega)
       have hkp : ∀ W Rs, St w.heap.size w W (ownR 9 1 (.slice (some ⟨kb, 0, none⟩) N kc) N (strs (L.map pk1)) :: Rs) → W.cell? ⟨kb, p, none⟩ = some (.string ⟨ke.toArray⟩) := fun W Rs hh => by
        subst eke
        have hx : L.length - 1 = p := by omega
        have ea : (⟨kb, L.length - 1, none⟩ : Addr) = ⟨kb, p, none⟩ := by rw [hx]
        rw [← ea]
        exact rd_key_at (Rd.of_own hh.own) (by omega)
       have kf1 : ∀ W, RowsR W (some ⟨xb, 0, none⟩) R → Calls Tryz.prog 24 #[.string ⟨k0.toArray⟩, .slice (some ⟨xb, 0, none⟩) p c] W (fun e w' => e = .returned (.tuple #[.string ⟨ke.toArray⟩, .int .i64 0]) ∧ Below W.heap.size W w') := fun W hr => by
        have := follow_spec k0 (some ⟨xb, 0, none⟩) R c W hr
        rw [hFk, hlen] at this
        exact this
       have kf2 : ∀ W, Calls Tryz.prog 24 #[.string ⟨k0.toArray⟩, .slice none 0 0] W (fun e w' => e = .returned (.tuple #[.string ⟨k0.toArray⟩, .int .i64 0]) ∧ Below W.heap.size W w') := fun W => by
        have := follow_spec k0 none [] 0 W ⟨.inl rfl, fun x hx => by cases hx⟩
        exact this
       have kcl : ∀ W, Rd W (some ⟨xb, 0, none⟩) (R.flatMap rowC) → Calls Tryz.prog 49 #[.slice (some ⟨xb, 0, none⟩) p c] W (fun e w' => ∃ v, e = .returned v ∧ w'.ownsRow W.heap.size 41 4 v p (R.flatMap rowC) ∧ Below W.heap.size W w') := fun W hr => by
        have := clonerot_spec (some ⟨xb, 0, none⟩) R c W hr (fun e => by cases e) (by have := HL.out.2.2.1; omega)
        rw [hlen] at this
        exact this
       have hrr : ∀ W Rs, St w.heap.size w W (ownR 41 4 (.slice (some ⟨xb, 0, none⟩) p c) p (R.flatMap rowC) :: rowsG R :: Rs) → RowsR W (some ⟨xb, 0, none⟩) R := fun W Rs hh => hh.rowsR hcap
       have z0 : (0 : Int) < (N : Int) := by omega
       have z1 : (p : Int) < (N : Int) := by omega
       have z2 : (0 : Int) ≤ (p : Int) := Int.natCast_nonneg _
       obtain ⟨q, hq⟩ : ∃ q, dr % p = q := ⟨_, rfl⟩
       have hqp : q < p := by rw [← hq]; exact Nat.mod_lt _ (by omega)
       have hmod : (dr : Int).tmod (p : Int) = (q : Int) := by rw [tmod_nat, hq]
       have hmod2 : (dr : Int) % (p : Int) = (q : Int) := by rw [← hq]; rfl
       have pz : ((p : Int) == 0) = false := beq_eq_false_iff_ne.2 (by omega)
       have pz2 : ¬ (p : Int) = 0 := by omega
       have q0 : (0 : Int) ≤ (q : Int) := Int.natCast_nonneg _
       have q1 : (q : Int) < (p : Int) := Int.ofNat_lt.2 hqp
       have e2 : (ke == ke) = true := beq_self_eq_true ke
       have e3 : (ke != ke) = false := by rw [bne, e2]; rfl
       have e4 : (k0 == k0) = true := beq_self_eq_true k0
       have e5 : (k0 != k0) = false := by rw [bne, e4]; rfl
       have HZ := Lib.hid (And.intro hFs (And.intro hcap (And.intro hlen (And.intro hqp (And.intro hp1 hp1)))))
       clear hFk hFs hs hRs hc1 hc2 hcap hlen hq hqp hp hp1 ek0 eke hR10 hL2 hL1
       have a0 := hk0 _ _ h.tail.tail
       go_wp2_with fail
       refine (kf1 _ (hrr _ _ h)).mono ?_
       rintro e w1 ⟨rfl, b1⟩
       have y1 := h.under b1
       clear h b1 a0 kf1
       have a0 := hk0 _ _ y1.tail.tail
       go_wp2_with fail
       refine (kf2 _).mono ?_
       rintro e w2 ⟨rfl, b2⟩
       have y2 := y1.under b2
       clear y1 b2 a0 kf2
       have a0 := hk0 _ _ y2.tail.tail
       have a1 := hkp _ _ y2.tail.tail
       go_wp2_with fail
       refine (kcl _ (Rd.of_own y2.own)).mono ?_
       rintro e w3 ⟨v, rfl, o3, b3⟩
       have y3 := y2.new_own b3 o3
       obtain ⟨G, gc, rfl, u1, u2⟩ := own_form y3.own
       obtain ⟨gb, rfl⟩ : ∃ gb, G = some ⟨gb, 0, none⟩ := own_some y3.own (Nat.lt_of_le_of_lt (Nat.zero_le _) HZ.out.2.2.2.1)
       clear kcl b3 o3 y2 a0 a1
       have g1 : (q : Int) < (gc : Int) := by omega
       have fz := y3.own.frozenAt (q * 4 + 1 + 1)
       obtain ⟨vc, hvc⟩ : ∃ vc, w3.cell? ⟨gb, q * 4 + 1 + 1, none⟩ = some vc := by
        rcases Rd.of_own y3.own with h0 | ⟨b', o', e', hc⟩
        ·have := congrArg List.length h0
         rw [flatC_len, HZ.out.2.2.1] at this
         have := HZ.out.2.2.2.1
         simp at *
         omega
        ·injection e' with e'
         injection e' with e1 e2
         subst e1 e2
         have := hc (q * 4 + 2) (by rw [flatC_len, HZ.out.2.2.1]; have := HZ.out.2.2.2.1; omega)
         rw [Nat.zero_add] at this
         exact ⟨_, this⟩
       have y4 : St w.heap.size w (w3.setCell ⟨gb, q * 4 + 1 + 1, none⟩ (.slice none 0 0)) [ownR 41 4 (.slice (some ⟨gb, 0, none⟩) p gc) p ((R.modify q spoil).flatMap rowC), ownR 41 4 (.slice (some ⟨xb, 0, none⟩) p c) p (R.flatMap rowC), rowsG R, ownR 9 1 (.slice (some ⟨kb, 0, none⟩) N kc) N (strs (L.map pk1))] := by
        have := y3.storeO (q * 4 + 2) (.slice none 0 0)
        rw [flatC_set R q (by rw [HZ.out.2.2.1]; exact HZ.out.2.2.2.1)] at this
        exact this
       have hr4 : RowsR (w3.setCell ⟨gb, q * 4 + 1 + 1, none⟩ (.slice none 0 0)) (some ⟨gb, 0, none⟩) (R.modify q spoil) := ⟨Rd.of_own y4.own, spoil_ok (y4.tail.tail.rowsAll HZ.out.2.1) q⟩
       have kf3 : ∀ W, RowsR W (some ⟨gb, 0, none⟩) (R.modify q spoil) → Calls Tryz.prog 24 #[.string ⟨k0.toArray⟩, .slice (some ⟨gb, 0, none⟩) p gc] W (fun e w' => e = .returned (.tuple #[.string ⟨([] : Sg.Str).toArray⟩, .int .i64 18]) ∧ Below W.heap.size W w') := fun W hr => by
        have := follow_spec k0 (some ⟨gb, 0, none⟩) (R.modify q spoil) gc W hr
        rw [HZ.out.1 q (by rw [HZ.out.2.2.1]; exact HZ.out.2.2.2.1), List.length_modify, HZ.out.2.2.1] at this
        exact this
       have a0 := hk0 _ _ y3.tail.tail.tail
       have a1 := hk0 _ _ y4.tail.tail.tail
       obtain ⟨w4, hw4⟩ : ∃ w4, w3.setCell ⟨gb, q * 4 + 1 + 1, none⟩ (.slice none 0 0) = w4 := ⟨_, rfl⟩
       rw [hw4] at y4 hr4 a1
       clear y3
       go_wp2_with fail
       refine (kf3 _ hr4).mono ?_
       rintro e w5 ⟨rfl, b5⟩
       have y5 := y4.below.trans (b5.mono y4.below.size)
       clear hr4 a0 a1 fz hvc kf3 b5 y4 hw4
       go_wp2
       go_ret
       exact ⟨rfl, y5⟩
  ·have h2' : (N : Int) < 2 := by omega
   clear hR hc1 hc2 hN h2 h4
   go_enter Tryz.func10, Tryz.ntmps10
   go_wp2_with fail
   refine (awake_ck _).mono ?_
   rintro e w0 ⟨rfl, b0⟩
   have B0 := Lib.hid b0
   clear b0
   go_wp2
   go_ret
   exact ⟨rfl, B0.out⟩
 ·have h4' : (4 : Int) < (N : Int) := by omega
  clear hR hc1 hc2 hN h4
  go_enter Tryz.func10, Tryz.ntmps10
  go_wp2_with fail
  refine (awake_ck _).mono ?_
  rintro e w0 ⟨rfl, b0⟩
  have B0 := Lib.hid b0
  clear b0
  go_wp2
  go_ret
  exact ⟨rfl, B0.out⟩
end Go.Proofs.YtjjpdnpbhdcpbaaGreat
