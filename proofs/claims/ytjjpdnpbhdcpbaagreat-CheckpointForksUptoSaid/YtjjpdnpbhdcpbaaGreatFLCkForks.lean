/-
  CheckpointForks: the walk. Conditions: lists of strings of bulk at most 2^30.
-/
import Derived.Test.YtjjpdnpbhdcpbaaGreatFLCkFkA
import Derived.Test.YtjjpdnpbhdcpbaaGreatQCkAw
import Derived.Test.YtjjpdnpbhdcpbaaGreatQCkAwA
import Derived.Test.YtjjpdnpbhdcpbaaGreatQPe
import Derived.Test.YtjjpdnpbhdcpbaaGreatFPa
import Derived.Test.YtjjpdnpbhdcpbaaGreatQCkZ
import Derived.Test.YtjjpdnpbhdcpbaaGreatQPa
import Derived.Test.YtjjpdnpbhdcpbaaGreatQBase
import Derived.Test.YtjjpdnpbhdcpbaaGreatQCkY
import Derived.Test.YtjjpdnpbhdcpbaaGreatQCkX
import Derived.Test.YtjjpdnpbhdcpbaaGreatQPc
import Derived.Test.YtjjpdnpbhdcpbaaGreatQSgL
import Derived.Test.YtjjpdnpbhdcpbaaGreatQPb
import Derived.Test.YtjjpdnpbhdcpbaaGreatQSgJ
import Derived.Test.YtjjpdnpbhdcpbaaGreatQSgI
import Derived.Test.YtjjpdnpbhdcpbaaGreatQSgH
import Derived.Test.YtjjpdnpbhdcpbaaGreatQSgG
import Derived.Test.YtjjpdnpbhdcpbaaGreatQSgF
import Derived.Test.YtjjpdnpbhdcpbaaGreatQMkA
import Derived.Test.YtjjpdnpbhdcpbaaGreatLayJ
import Derived.Test.YtjjpdnpbhdcpbaaGreatQShaA
import Derived.Test.YtjjpdnpbhdcpbaaGreatProg
import Derived.Laws.BitsAllLaws
import Derived.BigQuiet
import Derived.BigRegion
import Derived.Deep.RegionHeld3
import Derived.Test.YtjjpdnpbhdcpbaaGreatLayC
import Derived.Test.YtjjpdnpbhdcpbaaGreatLay
import Derived.Test.YtjjpdnpbhdcpbaaGreatQShaB
import Derived.Laws.CopyRow
import Derived.Laws.IdiomStrings
import Derived.Lib.Bytealg
import Derived.Laws.MakeOwn
import Derived.Test.YtjjpdnpbhdcpbaaGreatLayL
import Derived.Test.YtjjpdnpbhdcpbaaGreatQCdA
import Derived.Lib.Builder
import Derived.Lib.UnsafeStr
import Derived.Lib.AppendStr
import Derived.Lib.FrozenHead
import Derived.Test.YtjjpdnpbhdcpbaaGreatQMkB
import Derived.Test.YtjjpdnpbhdcpbaaGreatLayR
import Derived.Lib.OthersKept
import Derived.Test.YtjjpdnpbhdcpbaaGreatQSgD
import Derived.RangeFuncNested
import Derived.RangeFuncBound
import Derived.RangeFuncCalls
import Derived.RangeFuncLeaves
import Derived.Shelf.Abstract
import Derived.Shelf.RegionOpen
import Derived.OwnWalkIn
import Derived.TacticsInMore
import Derived.LoopNIn
import Derived.LoopIn
import Derived.Lib.FrozenHead2
import Derived.OrdersIn
import Derived.RangeFuncFrom
import Derived.Laws.ResultCell
import Derived.Test.YtjjpdnpbhdcpbaaGreatQCdB
import Derived.Laws.DeepNot64
namespace Go.Proofs.YtjjpdnpbhdcpbaaGreat
set_option linter.unusedVariables false
open Go.RowKit Go.Shelf
attribute [local go_sem] Oper.semAt_some
theorem chk_fork {M : List Sg.Str} (hM : Mk.AllD M) (hl : M.length ≤ 4096) (n : Nat) (hn : n ≤ M.length) (ra : Sg.Str) (hne : ¬ rtn M n = ra) : chkB true true lg (n : Int) ra lg (M.length : Int) (rtn M M.length) (rtn M n) (mCon M (n : Int)).1 = true := by
 have hx := ext_log hM hl n M.length hn (Nat.le_refl _)
 rw [List.take_length] at hx
 unfold chkB
 rw [Bool.true_and, Bool.true_and, beq_self_eq_true, Bool.true_and, decide_eq_true (show (n : Int) ≤ (M.length : Int) from Int.ofNat_le.2 hn), Bool.true_and, beq_eq_false_iff_ne.2 hne, Bool.not_false, Bool.true_and]
 unfold rtn at hx
 rw [List.take_length] at hx
 unfold rtn
 rw [List.take_length]
 exact hx
set_option maxRecDepth 20000 in
set_option maxHeartbeats 4000000 in
theorem forks_bad (AD AE : Option Addr) (d0 e0 cD cE sz : Nat) (q1 q2 : Bool) (w : World)
 (kF1 : ∀ W, Below w.heap.size w W → Calls Tryz.prog 34 #[.slice AD d0 cD] W (fun e w' => e = .returned (.bool q1) ∧ W = w'))
 (kF2 : ∀ W, Below w.heap.size w W → Calls Tryz.prog 34 #[.slice AE e0 cE] W (fun e w' => e = .returned (.bool q2) ∧ W = w'))
 (hno : 20 < d0 ∨ 20 < e0 ∨ q1 = false ∨ q2 = false) :
 Calls Tryz.prog 9 #[.slice AD d0 cD, .slice AE e0 cE, .int .u8 (sz : Int)] w fun e w' => e = .returned (.bool true) ∧ Below w.heap.size w w' := by
 go_enter Tryz.func9, Tryz.ntmps9
 go_wp2_with fail
 refine (awake_ck _).mono ?_
 rintro e w1 ⟨rfl, b1⟩
 by_cases h1 : d0 ≤ 20
 ·have h1' : ¬ ((20 : Int) < (d0 : Int)) := by omega
  by_cases h2 : e0 ≤ 20
  ·have h2' : ¬ ((20 : Int) < (e0 : Int)) := by omega
   go_wp2_with fail
   refine (kF1 _ b1).mono ?_
   rintro e w' ⟨rfl, rfl⟩
   cases q1 with
   | false =>
     go_wp2
     go_ret
     exact ⟨rfl, b1⟩
   | true =>
     go_wp2_with fail
     refine (kF2 _ b1).mono ?_
     rintro e w' ⟨rfl, rfl⟩
     cases q2 with
     | false =>
       go_wp2
       go_ret
       exact ⟨rfl, b1⟩
     | true =>
       exfalso
       rcases hno with h | h | h | h
       all_goals first | omega | cases h
  ·have h2' : (20 : Int) < (e0 : Int) := by omega
   clear hno kF1 kF2
   go_wp2
   go_ret
   exact ⟨rfl, b1⟩
 ·have h1' : (20 : Int) < (d0 : Int) := by omega
  clear hno kF1 kF2
  go_wp2
  go_ret
  exact ⟨rfl, b1⟩
set_option maxHeartbeats 4000000 in
theorem ckForks_walk (AD : Option Addr) (D : List Sg.Str) (cD : Nat) (AE : Option Addr) (E : List Sg.Str) (cE sz : Nat) (w : World) (hsz : sz < 256) (hD : Rd w AD (strs D)) (hDw : weight D ≤ 1073741824) (hE : Rd w AE (strs E)) (hEw : weight E ≤ 1073741824) :
 Calls Tryz.prog 9 #[.slice AD D.length cD, .slice AE E.length cE, .int .u8 (sz : Int)] w fun e w' => e = .returned (.bool true) ∧ Below w.heap.size w w' := by
 have kF1 := fun W (hb : Below w.heap.size w W) => mfew_spec AD D cD W (hD.below hb) (by omega)
 have kF2 := fun W (hb : Below w.heap.size w W) => mfew_spec AE E cE W (hE.below hb) (by omega)
 by_cases h1 : D.length ≤ 20
 ·by_cases h2 : E.length ≤ 20
  ·cases n3 : fewB D with
   | false => rw [n3] at kF1; exact forks_bad AD AE D.length E.length cD cE sz false (fewB E) w kF1 kF2 (.inr (.inr (.inl rfl)))
   | true =>
     cases n4 : fewB E with
     | false => rw [n3] at kF1; rw [n4] at kF2; exact forks_bad AD AE D.length E.length cD cE sz true false w kF1 kF2 (.inr (.inr (.inr rfl)))
     | true =>
       rw [n3] at kF1
       rw [n4] at kF2
       have kl1 := fun W (hb : Below w.heap.size w W) => leaves_spec AD D cD W (hD.below hb) hDw
       have kl2 := fun W (hb : Below w.heap.size w W) => leaves_spec AE E cE W (hE.below hb) hEw
       have hL := leaf_dig D
       have hM := leaf_dig E
       have hN : (D.map Mk.leaf).length = D.length := List.length_map ..
       have hm : (E.map Mk.leaf).length = E.length := List.length_map ..
       have d1 : ¬ ((20 : Int) < (D.length : Int)) := by omega
       have d2 : ¬ ((20 : Int) < (E.length : Int)) := by omega
       obtain ⟨d0, hd0⟩ : ∃ d0, D.length = d0 := ⟨_, rfl⟩
       obtain ⟨e0, he0⟩ : ∃ e0, E.length = e0 := ⟨_, rfl⟩
       rw [hd0] at kF1 kl1 hN d1 h1 ⊢
       rw [he0] at kF2 kl2 hm d2 h2 ⊢
       generalize D.map Mk.leaf = L at kl1 hL hN
       generalize E.map Mk.leaf = M at kl2 hM hm
       obtain ⟨n, hn⟩ : ∃ n, sz % (d0 + 1) = n := ⟨_, rfl⟩
       have hnN : n ≤ d0 := by rw [← hn]; have := Nat.mod_lt sz (show 0 < d0 + 1 by omega); omega
       have hmod : (sz : Int).tmod ((d0 : Int) + 1) = (n : Int) := by rw [show (d0 : Int) + 1 = ((d0 + 1 : Nat) : Int) from rfl, tmod_nat, hn]
       have hmod2 : (sz : Int) % ((d0 : Int) + 1) = (n : Int) := by rw [← hn]; rfl
       clear hD hE hDw hEw n3 n4 hd0 he0 hn
       by_cases hle : n ≤ e0
       ·have kR : ∀ (K : List Sg.Str) (hK : Mk.AllD K) (k : Nat), n ≤ k → K.length = k → k ≤ 20 → ∀ W c A, Rd W A (strs K) → k ≤ c → c ≤ maxLen → Calls Tryz.prog 46 #[.slice A n c] W (fun e w' => e = .returned (.string ⟨(rtn K n).toArray⟩) ∧ Below W.heap.size W w') := fun K hK k a1 a2 a3 W c A hA a4 a5 => by
         have ht : (K.take n).length = n := by rw [List.length_take]; omega
         have := root_rk A (K.take n) c W (rd_take hA n) (by omega) (by omega) a5
         rw [mRoot_ok (Mk.AllD.take hK n) (by omega), ht] at this
         exact this
        have kR1 := kR L hL d0 hnN hN h1
        have kR2 := kR M hM e0 hle hm h2
        by_cases hr : rtn L n = rtn M n
        ·rw [← hr] at kR2
         exact forks_eq AD AE d0 e0 cD cE sz d0 e0 n L M w d1 d2 hN hm h1 h2 hmod hmod2 hnN hsz (fun W => awake_ck W) kF1 kF2 kl1 kl2 (rtn L n) kR1 kR2 hle
        ·have kRM : ∀ W c A, Rd W A (strs M) → e0 ≤ c → c ≤ maxLen → Calls Tryz.prog 46 #[.slice A e0 c] W (fun e w' => e = .returned (.string ⟨(rtn M e0).toArray⟩) ∧ Below W.heap.size W w') := fun W c A hA a4 a5 => by
          have := root_rk A M c W hA (by omega) (by omega) a5
          rw [mRoot_ok hM (by omega), hm] at this
          unfold rtn
          rw [List.take_of_length_le (Nat.le_of_eq hm)]
          exact this
         have hsr := sd_len 114
         have kr := fun W => key_spec 114 W
         rw [show ((114 : UInt8).toNat : Int) = 114 from rfl] at kr
         generalize sd 114 = SR at *
         have kpub := fun W => rpublic_spec SR 1 0 W (by omega)
         have hpub := pubR_ok SR 1 hsr (by decide)
         rw [show ((1 : Nat) : Int) = 1 from rfl] at hpub
         rw [hpub] at kpub
         have q2 := head_log hL n (by omega)
         have q3 := head_log hM e0 (by omega)
         have s1 := ck_sign SR 1 0 lg (n : Int) (rtn L n) hsr (by decide) (by decide) q2
         have s2 := ck_sign SR 1 1 lg (e0 : Int) (rtn M e0) hsr (by decide) (by decide) q3
         have v1 := ck_ver 4 SR 1 0 lg (n : Int) (rtn L n) (by decide) (by decide) q2
         have v2 := ck_ver 4 SR 1 1 lg (e0 : Int) (rtn M e0) (by decide) (by decide) q3
         have hcm := cmp_some M n (rtn L n) hM (by omega) (by omega) (fun e => hr e.symm)
         have hck := chk_fork hM (by omega) n (by omega) (rtn L n) (fun e => hr e.symm)
         have hMr : Mk.root M = rtn M e0 := by
          unfold rtn
          rw [List.take_of_length_le (Nat.le_of_eq hm)]
         rw [hMr, hm] at hcm
         rw [hm] at hck
         have hne : (rtn L n == rtn M n) = false := beq_eq_false_iff_ne.2 hr
         have hP : (mCon M (n : Int)).1.length ≤ maxLen → True := fun _ => trivial
         generalize (mCon M (n : Int)).1 = P at hcm hck
         generalize sgC SR 0 (Sg.dgs (4 :: headS lg (n : Int) (rtn L n))) = cA at s1 v1
         generalize sgC SR 1 (Sg.dgs (4 :: headS lg (e0 : Int) (rtn M e0))) = cB at s2 v2
         generalize sgT SR 1 0 = tA at s1 v1
         generalize sgT SR 1 1 = tB at s2 v2
         rw [show ((0 : Nat) : Int) = 0 from rfl] at s1 v1
         rw [show ((1 : Nat) : Int) = 1 from rfl] at s1 s2 v2
         refine forks_yes AD AE d0 e0 cD cE sz d0 e0 n L M w d1 d2 hN hm h1 h2 hmod hmod2 hnN hsz (fun W => awake_ck W) kF1 kF2 kl1 kl2 SR (pubK SR 1) (rtn L n) (rtn M n) (rtn M e0) cA tA cB tB P kR1 kR2 kr kpub kRM ?ks1 ?ks2 ?kcmp ?kchk hle hne
         case ks1 =>
          intro W
          have := cksign_spec SR 1 0 lg (n : Int) (rtn L n) W
          rw [s1] at this
          exact this
         case ks2 =>
          intro W
          have := cksign_spec SR 1 1 lg (e0 : Int) (rtn M e0) W
          rw [s2] at this
          exact this
         case kcmp =>
          intro W A1 A2 n1 n2 A3 A4 n3 n4 c Y hY a1 a2
          have := compare_spec ⟨lg, (n : Int), rtn L n, 0, A1, cA, n1, A2, tA, n2, none, [], 0⟩ ⟨lg, (e0 : Int), rtn M e0, 1, A3, cB, n3, A4, tB, n4, none, [], 0⟩ Y M c W hY (by omega) (by omega) a2
          dsimp only at this
          rw [hcm, hm] at this
          exact this
         case kchk =>
          intro W A1 A2 n1 n2 A3 A4 n3 n4 Y d r1 r2 u1 u2 u3 u4 r3 r4 u5 u6 u7 u8 hY a1 a2
          have := check_spec (pubK SR 1) lg (n : Int) (rtn L n) 0 A1 cA n1 A2 tA n2 none 0 0 lg (e0 : Int) (rtn M e0) 1 A3 cB n3 A4 tB n4 none 0 0 (rtn M n) Y P d W r1 r2 u1 u2 u3 u4 r3 r4 u5 u6 u7 u8 hY a1 a2
          rw [v1, v2, hck] at this
          exact this
       ·exact forks_gt AD AE d0 e0 cD cE sz d0 e0 n L M w d1 d2 hN hm h1 h2 hmod hmod2 hnN hsz (fun W => awake_ck W) kF1 kF2 kl1 kl2 (Nat.lt_of_not_le hle)
  ·exact forks_bad AD AE D.length E.length cD cE sz (fewB D) (fewB E) w kF1 kF2 (.inr (.inl (by omega)))
 ·exact forks_bad AD AE D.length E.length cD cE sz (fewB D) (fewB E) w kF1 kF2 (.inl (by omega))
end Go.Proofs.YtjjpdnpbhdcpbaaGreat
