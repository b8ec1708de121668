/-
  Checkpoints: decoding, in the reference; both ways of decoding agree. Conditions: strings of at most 2^40 bytes.
-/
import Derived.Test.YtjjpdnpbhdcpbaaGreatQPe
import Derived.Test.YtjjpdnpbhdcpbaaGreatBCkQ
import Derived.Test.YtjjpdnpbhdcpbaaGreatQPd
import Derived.Test.YtjjpdnpbhdcpbaaGreatQCkL
import Derived.Test.YtjjpdnpbhdcpbaaGreatQCkK
import Derived.Test.YtjjpdnpbhdcpbaaGreatQCkJ
import Derived.Test.YtjjpdnpbhdcpbaaGreatQCkI
import Derived.Test.YtjjpdnpbhdcpbaaGreatQCkH
import Derived.Test.YtjjpdnpbhdcpbaaGreatQCkF
import Derived.Test.YtjjpdnpbhdcpbaaGreatQCkE
import Derived.Test.YtjjpdnpbhdcpbaaGreatQPa
import Derived.Test.YtjjpdnpbhdcpbaaGreatBPa
import Derived.Test.YtjjpdnpbhdcpbaaGreatQBase
import Derived.Test.YtjjpdnpbhdcpbaaGreatQCkC
import Derived.Test.YtjjpdnpbhdcpbaaGreatQPc
import Derived.Test.YtjjpdnpbhdcpbaaGreatBPb
import Derived.Test.YtjjpdnpbhdcpbaaGreatBSgQ
import Derived.Deep.Strs
import Derived.Maps.OwnSet
import Derived.Test.YtjjpdnpbhdcpbaaGreatQPb
import Derived.Test.YtjjpdnpbhdcpbaaGreatQSgJ
import Derived.Test.YtjjpdnpbhdcpbaaGreatQSgI
import Derived.Test.YtjjpdnpbhdcpbaaGreatQSgH
import Derived.Test.YtjjpdnpbhdcpbaaGreatQSgG
import Derived.Test.YtjjpdnpbhdcpbaaGreatQSgF
import Derived.Test.YtjjpdnpbhdcpbaaGreatQMkA
import Derived.Test.YtjjpdnpbhdcpbaaGreatLayJ
import Derived.Test.YtjjpdnpbhdcpbaaGreatQShaA
import Derived.Test.YtjjpdnpbhdcpbaaGreatProg
import Derived.Laws.BitsAllLaws
import Derived.BigQuiet
import Derived.BigRegion
import Derived.Deep.RegionHeld3
import Derived.Test.YtjjpdnpbhdcpbaaGreatLayC
import Derived.Test.YtjjpdnpbhdcpbaaGreatLay
import Derived.Test.YtjjpdnpbhdcpbaaGreatQShaB
import Derived.Laws.CopyRow
import Derived.Laws.IdiomStrings
import Derived.Lib.Bytealg
import Derived.Laws.MakeOwn
import Derived.Test.YtjjpdnpbhdcpbaaGreatLayL
import Derived.Test.YtjjpdnpbhdcpbaaGreatQCdA
import Derived.Test.YtjjpdnpbhdcpbaaGreatQMkB
import Derived.Test.YtjjpdnpbhdcpbaaGreatLayR
import Derived.Lib.OthersKept
import Derived.Test.YtjjpdnpbhdcpbaaGreatQSgD
import Derived.RangeFuncNested
import Derived.RangeFuncBound
import Derived.RangeFuncCalls
import Derived.RangeFuncLeaves
import Derived.Shelf.Abstract
import Derived.Shelf.RegionOpen
import Derived.OwnWalkIn
import Derived.TacticsInMore
import Derived.LoopNIn
import Derived.LoopIn
import Derived.Lib.FrozenHead2
import Derived.OrdersIn
import Derived.RangeFuncFrom
import Derived.Laws.ResultCell
import Derived.Test.YtjjpdnpbhdcpbaaGreatBCdB
import Derived.Test.YtjjpdnpbhdcpbaaGreatQCdB
namespace Go.Proofs.YtjjpdnpbhdcpbaaGreat
set_option linter.unusedVariables false
open Go.RowKit Go.Shelf
attribute [local go_sem] Oper.semAt_some
theorem ckRows_le {s : Sg.Str} : ∀ (n : Nat) (acc : List SgRow) (at_ : Nat) (e : Int), at_ ≤ s.length → (ckRows s n acc at_ e).2.1 ≤ s.length
 | 0, _, _, _, h => h
 | n + 1, acc, at_, e, h => by
   unfold ckRows
   split
   ·exact ckRows_le n _ _ _ (sgnR_le (textR_le h))
   ·exact h
def rkRows (s : Sg.Str) : Nat → List SgRow → Nat → Option (List SgRow × Nat)
 | 0, acc, a => some (acc, a)
 | n + 1, acc, a => match Cd.readText s a with
   | none => none
   | some (k, a1) => if k.length ≤ 65536 then (match sgRd s a1 with
     | none => none
     | some (i, C, T, a2) => rkRows s n (acc ++ [rowOf k ((i : Int), C, T)]) a2) else none
def rkTail (s : Sg.Str) (o : Sg.Str) (z : Nat) (r : Sg.Str) (i : Nat) (C T : List Sg.Str) (n a : Nat) : CkV × Int :=
 match rkRows s n [] a with
 | none => (noCk, 9)
 | some (L, a6) => if a6 = s.length then (if headB o (z : Int) r = true then (ckP o (z : Int) r (i : Int) C T L, 0) else (noCk, 9)) else (noCk, 9)
def rckDec (s : Sg.Str) : CkV × Int :=
 match Cd.readText s 0 with
 | none => (noCk, 9)
 | some (o, a1) => match Cd.readUint s a1 with
   | none => (noCk, 9)
   | some (z, a2) => match Cd.readText s a2 with
     | none => (noCk, 9)
     | some (r, a3) => match sgRd s a3 with
       | none => (noCk, 9)
       | some (i, C, T, a4) => match Cd.readUint s a4 with
         | none => (noCk, 9)
         | some (n, a5) => if n ≤ 1024 then rkTail s o z r i C T n a5 else (noCk, 9)
theorem textR_err (s : Sg.Str) (a : Nat) : textR s a 9 = ([], a, 9) := by unfold textR; rw [if_pos (by decide)]
theorem uintR_err (s : Sg.Str) (a : Nat) : uintR s a 9 = (0, a, 9) := by unfold uintR; rw [if_pos (by decide)]
theorem countR_err (s : Sg.Str) (a : Nat) (m : Int) : countR s a 9 m = (0, a, 9) := by unfold countR; rw [if_pos (by decide)]
theorem sgnR_err (s : Sg.Str) (a : Nat) : sgnR s a 9 = ((0, [], []), a, 9) := by
 unfold sgnR
 rw [uintR_err]
 dsimp only
 rw [textsR_err]
 dsimp only
 rw [textsR_err]
theorem ckRows_err (s : Sg.Str) : ∀ (n : Nat) (acc : List SgRow) (a : Nat), ckRows s n acc a 9 = (acc, a, 9)
 | 0, _, _ => rfl
 | n + 1, _, _ => by
   unfold ckRows
   rw [if_neg (by decide)]
theorem textR_of {s : Sg.Str} {a : Nat} : (∀ {k a1}, Cd.readText s a = some (k, a1) → textR s a 0 = (k, a1, 0)) ∧ (Cd.readText s a = none → textR s a 0 = ([], a, 9)) := by
 refine ⟨fun h => ?_, fun h => ?_⟩
 all_goals
  unfold textR
  rw [if_neg (by simp), h]
theorem uintR_of {s : Sg.Str} {a : Nat} : (∀ {k a1}, Cd.readUint s a = some (k, a1) → uintR s a 0 = ((k : Int), a1, 0)) ∧ (Cd.readUint s a = none → uintR s a 0 = (0, a, 9)) := by
 refine ⟨fun h => ?_, fun h => ?_⟩
 all_goals
  unfold uintR
  rw [if_neg (by simp), h]
theorem textsR_of {s : Sg.Str} {a : Nat} : (∀ {k a1}, Cd.readTexts s a = some (k, a1) → textsR s a 0 = (k, a1, 0)) ∧ (Cd.readTexts s a = none → textsR s a 0 = ([], a, 9)) := by
 refine ⟨fun h => ?_, fun h => ?_⟩
 all_goals
  unfold textsR
  rw [if_neg (by simp), h]
theorem sgnR_of {s : Sg.Str} {a : Nat} : (∀ {i C T a1}, sgRd s a = some (i, C, T, a1) → okB (i : Int) C T = true ∧ sgnR s a 0 = (((i : Int), C, T), a1, 0)) ∧
 (sgRd s a = none → (sgnR s a 0).2.2 = 9 ∨ ((sgnR s a 0).2.2 = 0 ∧ okB (sgnR s a 0).1.1 (sgnR s a 0).1.2.1 (sgnR s a 0).1.2.2 = false)) := by
 unfold sgRd sgnR
 cases h1 : Cd.readUint s a with
 | none =>
   refine ⟨(fun h => by cases h), fun _ => .inl ?_⟩
   rw [uintR_of.2 h1]
   dsimp only
   rw [textsR_err]
   dsimp only
   rw [textsR_err]
 | some p =>
   obtain ⟨i, a1⟩ := p
   rw [uintR_of.1 h1]
   dsimp only
   cases h2 : Cd.readTexts s a1 with
   | none =>
     refine ⟨(fun h => by cases h), fun _ => .inl ?_⟩
     rw [textsR_of.2 h2]
     dsimp only
     rw [textsR_err]
   | some p =>
     obtain ⟨C, a2⟩ := p
     rw [textsR_of.1 h2]
     dsimp only
     cases h3 : Cd.readTexts s a2 with
     | none =>
       refine ⟨(fun h => by cases h), fun _ => .inl ?_⟩
       rw [textsR_of.2 h3]
     | some p =>
       obtain ⟨T, a3⟩ := p
       rw [textsR_of.1 h3]
       dsimp only
       cases ho : okB (i : Int) C T with
       | true =>
         refine ⟨fun h => ?_, (fun h => by rw [if_pos rfl] at h; cases h)⟩
         rw [if_pos rfl] at h
         cases h
         exact ⟨ho, rfl⟩
       | false =>
         refine ⟨(fun h => by rw [if_neg (by decide)] at h; cases h), fun _ => .inr ⟨rfl, rfl⟩⟩
theorem sgRd_lt {s : Sg.Str} {a i a1 : Nat} {C T : List Sg.Str} (h : sgRd s a = some (i, C, T, a1)) (ha : a ≤ s.length) : (i : Int) < 9223372036854775808 := by
 have h1 := sgnR_lt (e := 0) ha
 rw [(sgnR_of.1 h).2] at h1
 exact h1
def RowGood (x : SgRow) : Prop := okB x.i x.C x.T = true ∧ x.key.length ≤ 65536
theorem ckEncL_good : ∀ (L : List SgRow) (acc : Sg.Str), (∀ x ∈ L, RowGood x) → (ckEncL acc L).2 = 0
 | [], _, _ => rfl
 | x :: L, acc, h => by
   obtain ⟨h1, h2⟩ := h x (List.mem_cons_self ..)
   unfold ckEncL
   rw [if_pos h1, if_pos h2]
   exact ckEncL_good L _ (fun y hy => h y (List.mem_cons_of_mem _ hy))
theorem ckEncL_bad : ∀ (L : List SgRow) (acc : Sg.Str) (x : SgRow), x ∈ L → ¬ RowGood x → ¬ (ckEncL acc L).2 = 0
 | [], _, _, h, _ => by cases h
 | y :: L, acc, x, h, hb => by
   unfold ckEncL
   by_cases h1 : okB y.i y.C y.T = true
   ·rw [if_pos h1]
    by_cases h2 : y.key.length ≤ 65536
    ·rw [if_pos h2]
     rcases List.mem_cons.1 h with rfl | h
     ·exact absurd ⟨h1, h2⟩ hb
     ·exact ckEncL_bad L _ x h hb
    ·rw [if_neg h2]
     exact fun e => absurd e (by decide)
   ·rw [if_neg h1]
    exact fun e => absurd e (by decide)
theorem ckEnc_bad (o : Sg.Str) (z : Int) (r : Sg.Str) (i : Int) (C T : List Sg.Str) (L : List SgRow) (x : SgRow) (hx : x ∈ L) (hb : ¬ RowGood x) : ¬ (ckEnc o z r i C T L).2 = 0 := by
 unfold ckEnc
 split
 ·split
  ·split
   ·exact ckEncL_bad L _ x hx hb
   ·exact fun e => absurd e (by decide)
  ·exact fun e => absurd e (by decide)
 ·exact fun e => absurd e (by decide)
theorem ckEnc_sig (o : Sg.Str) (z : Int) (r : Sg.Str) (i : Int) (C T : List Sg.Str) (L : List SgRow) (h : okB i C T = false) : ¬ (ckEnc o z r i C T L).2 = 0 := by
 unfold ckEnc
 rw [h, if_neg (by decide)]
 exact fun e => absurd e (by decide)
theorem ckRows_keep (s : Sg.Str) (x : SgRow) : ∀ (n : Nat) (acc : List SgRow) (a : Nat) (e : Int), x ∈ acc → x ∈ (ckRows s n acc a e).1
 | 0, _, _, _, h => h
 | n + 1, acc, a, e, h => by
   unfold ckRows
   split
   ·exact ckRows_keep s x n _ _ _ (List.mem_append_left _ h)
   ·exact h
theorem rows_rel (s : Sg.Str) : ∀ (n : Nat) (acc : List SgRow) (a : Nat), (∀ x ∈ acc, RowGood x) →
 (∀ {L a'}, rkRows s n acc a = some (L, a') → ckRows s n acc a 0 = (L, a', 0) ∧ L.length = acc.length + n ∧ ∀ x ∈ L, RowGood x) ∧
 (rkRows s n acc a = none → (ckRows s n acc a 0).2.2 = 9 ∨ ∃ x ∈ (ckRows s n acc a 0).1, ¬ RowGood x)
 | 0, acc, a, hg => by
   refine ⟨fun h => ?_, (fun h => by cases h)⟩
   cases h
   exact ⟨rfl, rfl, hg⟩
 | n + 1, acc, a, hg => by
   unfold rkRows ckRows
   rw [if_pos rfl]
   cases h1 : Cd.readText s a with
   | none =>
     refine ⟨(fun h => by cases h), fun _ => .inl ?_⟩
     rw [textR_of.2 h1]
     dsimp only
     rw [sgnR_err]
     dsimp only
     rw [ckRows_err]
   | some p =>
     obtain ⟨k, a1⟩ := p
     rw [textR_of.1 h1]
     dsimp only
     by_cases hk : k.length ≤ 65536
     ·rw [if_pos hk]
      cases h2 : sgRd s a1 with
      | none =>
        refine ⟨(fun h => by cases h), fun _ => ?_⟩
        rcases sgnR_of.2 h2 with h3 | ⟨h3, h4⟩
        ·left
         rw [h3, ckRows_err]
        ·right
         refine ⟨rowOf k (sgnR s a1 0).1, ckRows_keep s _ n _ _ _ (List.mem_append_right _ (List.mem_singleton.2 rfl)), fun hq => ?_⟩
         have h5 : okB (sgnR s a1 0).1.1 (sgnR s a1 0).1.2.1 (sgnR s a1 0).1.2.2 = true := hq.1
         rw [h4] at h5
         cases h5
      | some p =>
        obtain ⟨i, C, T, a2⟩ := p
        obtain ⟨h3, h4⟩ := sgnR_of.1 h2
        rw [h4]
        dsimp only
        have ih := rows_rel s n (acc ++ [rowOf k ((i : Int), C, T)]) a2 (fun x hx => by
         rcases List.mem_append.1 hx with hx | hx
         ·exact hg x hx
         ·rw [List.mem_singleton.1 hx]
          exact ⟨h3, hk⟩)
        refine ⟨fun h => ?_, ih.2⟩
        obtain ⟨e1, e2, e3⟩ := ih.1 h
        refine ⟨e1, ?_, e3⟩
        rw [e2, List.length_append, List.length_singleton]
        omega
     ·rw [if_neg hk]
      refine ⟨(fun h => by cases h), fun _ => .inr ?_⟩
      exact ⟨rowOf k (sgnR s a1 0).1, ckRows_keep s _ n _ _ _ (List.mem_append_right _ (List.mem_singleton.2 rfl)), fun hq => hk hq.2⟩
theorem ckDec_err {s : Sg.Str} (h : (ckH6 s).2.2 = 9) : ckDec s = (noCk, 9) := by
 have he : ¬ endR s (ckH6 s).2.1 (ckH6 s).2.2 = 0 := by rw [h, endR_err]; decide
 unfold ckDec
 rw [if_neg he]
 split <;> rfl
theorem ckDec_noenc {s : Sg.Str} (h : ¬ (ckEnc (ckH1 s).1 (ckH2 s).1 (ckH3 s).1 (ckH4 s).1.1 (ckH4 s).1.2.1 (ckH4 s).1.2.2 (ckH6 s).1).2 = 0) : ckDec s = (noCk, 9) := by
 unfold ckDec
 rw [if_neg h]
theorem h6_err {s : Sg.Str} (h : (ckH5 s).2.2 = 9) : (ckH6 s).2.2 = 9 := by
 unfold ckH6
 rw [h, ckRows_err]
theorem h5_err {s : Sg.Str} (h : (ckH4 s).2.2 = 9) : (ckH5 s).2.2 = 9 := by
 unfold ckH5
 rw [h, countR_err]
theorem h4_err {s : Sg.Str} (h : (ckH3 s).2.2 = 9) : (ckH4 s).2.2 = 9 := by
 unfold ckH4
 rw [h, sgnR_err]
theorem h3_err {s : Sg.Str} (h : (ckH2 s).2.2 = 9) : (ckH3 s).2.2 = 9 := by
 unfold ckH3
 rw [h, textR_err]
theorem h2_err {s : Sg.Str} (h : (ckH1 s).2.2 = 9) : (ckH2 s).2.2 = 9 := by
 unfold ckH2
 rw [h, uintR_err]
theorem rckDec_eq (s : Sg.Str) : rckDec s = ckDec s := by
 unfold rckDec
 cases h1 : Cd.readText s 0 with
 | none =>
   have e1 : (ckH1 s).2.2 = 9 := by unfold ckH1; rw [textR_of.2 h1]
   exact (ckDec_err (h6_err (h5_err (h4_err (h3_err (h2_err e1)))))).symm
 | some p =>
   obtain ⟨o, a1⟩ := p
   have e1 : ckH1 s = (o, a1, 0) := textR_of.1 h1
   have l1 : a1 ≤ s.length := (Cd.readText_le h1 (Nat.zero_le _)).2.1
   dsimp only
   cases h2 : Cd.readUint s a1 with
   | none =>
     have e2 : (ckH2 s).2.2 = 9 := by unfold ckH2; rw [e1]; dsimp only; rw [uintR_of.2 h2]
     exact (ckDec_err (h6_err (h5_err (h4_err (h3_err e2))))).symm
   | some p =>
     obtain ⟨z, a2⟩ := p
     have e2 : ckH2 s = ((z : Int), a2, 0) := by unfold ckH2; rw [e1]; exact uintR_of.1 h2
     dsimp only
     cases h3 : Cd.readText s a2 with
     | none =>
       have e3 : (ckH3 s).2.2 = 9 := by unfold ckH3; rw [e2]; dsimp only; rw [textR_of.2 h3]
       exact (ckDec_err (h6_err (h5_err (h4_err e3)))).symm
     | some p =>
       obtain ⟨r, a3⟩ := p
       have e3 : ckH3 s = (r, a3, 0) := by unfold ckH3; rw [e2]; exact textR_of.1 h3
       dsimp only
       cases h4 : sgRd s a3 with
       | none =>
         rcases sgnR_of.2 h4 with h5 | ⟨h5, h6⟩
         ·have e4 : (ckH4 s).2.2 = 9 := by unfold ckH4; rw [e3]; exact h5
          exact (ckDec_err (h6_err (h5_err e4))).symm
         ·refine (ckDec_noenc (ckEnc_sig _ _ _ _ _ _ _ ?_)).symm
          unfold ckH4
          rw [e3]
          exact h6
       | some p =>
         obtain ⟨i, C, T, a4⟩ := p
         obtain ⟨ho, h5⟩ := sgnR_of.1 h4
         have e4 : ckH4 s = (((i : Int), C, T), a4, 0) := by unfold ckH4; rw [e3]; exact h5
         dsimp only
         cases h6 : Cd.readUint s a4 with
         | none =>
           have e5 : (ckH5 s).2.2 = 9 := by
            unfold ckH5
            rw [e4]
            dsimp only
            unfold countR Cd.readCount
            rw [if_neg (by simp), h6]
           exact (ckDec_err (h6_err e5)).symm
         | some p =>
           obtain ⟨n, a5⟩ := p
           dsimp only
           by_cases hn : n ≤ 1024
           ·have e5 : ckH5 s = ((n : Int), a5, 0) := by
             unfold ckH5
             rw [e4]
             dsimp only
             unfold countR
             rw [if_neg (by simp), readCount_some h6 (by omega)]
            rw [if_pos hn]
            unfold rkTail
            have hr := rows_rel s n [] a5 (fun x hx => by cases hx)
            have e6 : ckH6 s = ckRows s n [] a5 0 := by unfold ckH6; rw [e5]; rw [Int.toNat_natCast]
            cases h7 : rkRows s n [] a5 with
            | none =>
              rcases hr.2 h7 with h8 | ⟨x, hx, hb⟩
              ·exact (ckDec_err (by rw [e6]; exact h8)).symm
              ·exact (ckDec_noenc (ckEnc_bad _ _ _ _ _ _ _ x (by rw [e6]; exact hx) hb)).symm
            | some p =>
              obtain ⟨L, a6⟩ := p
              obtain ⟨h8, h9, h10⟩ := hr.1 h7
              rw [h8] at e6
              have hl6 : a6 ≤ s.length := by
               have h11 := ckRows_le (s := s) n [] a5 0 (by
                exact (Cd.readUint_le h6 (sgRd_le h4 (Cd.readText_le h3 (Cd.readUint_le h2 l1).2.1).2.1)).2.1)
               rw [h8] at h11
               exact h11
              dsimp only
              by_cases ha : a6 = s.length
              ·rw [if_pos ha]
               have hend : endR s (ckH6 s).2.1 (ckH6 s).2.2 = 0 := by
                rw [e6]
                unfold endR
                rw [if_neg (fun h => by have := h.2; dsimp only at this; omega)]
               cases hh : headB o (z : Int) r with
               | true =>
                 rw [if_pos rfl]
                 unfold ckDec
                 rw [if_pos hend, e1, e2, e3, e4, e6]
                 dsimp only
                 have hL : L.length ≤ 1024 := by rw [h9]; simp; omega
                 rw [if_pos (by unfold ckEnc; rw [if_pos ho, if_pos hh, if_pos hL]; exact ckEncL_good L _ h10)]
               | false =>
                 rw [if_neg (by decide)]
                 refine (ckDec_noenc ?_).symm
                 rw [e1, e2, e3, e4]
                 dsimp only
                 unfold ckEnc
                 rw [if_pos ho, hh, if_neg (by decide)]
                 exact fun e => absurd e (by decide)
              ·rw [if_neg ha]
               have hend : ¬ endR s (ckH6 s).2.1 (ckH6 s).2.2 = 0 := by
                rw [e6]
                unfold endR
                rw [if_pos ⟨rfl, by dsimp only; omega⟩]
                decide
               unfold ckDec
               rw [if_neg hend]
               split <;> rfl
           ·rw [if_neg hn]
            have e5 : (ckH5 s).2.2 = 9 := by
             unfold ckH5
             rw [e4]
             dsimp only
             unfold countR
             rw [if_neg (by simp)]
             have hc : Cd.readCount s a4 1024 = none := by
              unfold Cd.readCount
              rw [h6]
              dsimp only
              rw [if_neg (by omega)]
             rw [hc]
            exact (ckDec_err (h6_err e5)).symm
end Go.Proofs.YtjjpdnpbhdcpbaaGreat
