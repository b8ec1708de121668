/-
  CheckpointHonest: the walk. Conditions: lists of strings of bulk at most 2^30.
-/
import Derived.Test.YtjjpdnpbhdcpbaaGreatHLCkHoA
import Derived.Test.YtjjpdnpbhdcpbaaGreatQCkAw
import Derived.Test.YtjjpdnpbhdcpbaaGreatQCkAwA
import Derived.Test.YtjjpdnpbhdcpbaaGreatHPb
import Derived.Test.YtjjpdnpbhdcpbaaGreatQPe
import Derived.Test.YtjjpdnpbhdcpbaaGreatQCkZ
import Derived.Test.YtjjpdnpbhdcpbaaGreatHPa
import Derived.Test.YtjjpdnpbhdcpbaaGreatQPa
import Derived.Test.YtjjpdnpbhdcpbaaGreatQCkY
import Derived.Test.YtjjpdnpbhdcpbaaGreatQCkX
import Derived.Test.YtjjpdnpbhdcpbaaGreatQCkO
import Derived.Test.YtjjpdnpbhdcpbaaGreatQPd
import Derived.Test.YtjjpdnpbhdcpbaaGreatQCkL
import Derived.Test.YtjjpdnpbhdcpbaaGreatQCkK
import Derived.Test.YtjjpdnpbhdcpbaaGreatQCkJ
import Derived.Test.YtjjpdnpbhdcpbaaGreatQCkI
import Derived.Test.YtjjpdnpbhdcpbaaGreatQCkH
import Derived.Test.YtjjpdnpbhdcpbaaGreatQCkF
import Derived.Test.YtjjpdnpbhdcpbaaGreatQCkE
import Derived.Test.YtjjpdnpbhdcpbaaGreatQCkC
import Derived.Test.YtjjpdnpbhdcpbaaGreatQPc
import Derived.Test.YtjjpdnpbhdcpbaaGreatQPb
import Derived.Test.YtjjpdnpbhdcpbaaGreatQSgJ
import Derived.Test.YtjjpdnpbhdcpbaaGreatQSgI
import Derived.Test.YtjjpdnpbhdcpbaaGreatQSgH
import Derived.Test.YtjjpdnpbhdcpbaaGreatQSgG
import Derived.Test.YtjjpdnpbhdcpbaaGreatQSgF
import Derived.Test.YtjjpdnpbhdcpbaaGreatQMkA
import Derived.Test.YtjjpdnpbhdcpbaaGreatLayJ
import Derived.Test.YtjjpdnpbhdcpbaaGreatQBase
import Derived.Test.YtjjpdnpbhdcpbaaGreatQShaA
import Derived.Test.YtjjpdnpbhdcpbaaGreatProg
import Derived.Laws.BitsAllLaws
import Derived.BigQuiet
import Derived.BigRegion
import Derived.Deep.RegionHeld3
import Derived.Test.YtjjpdnpbhdcpbaaGreatLayC
import Derived.Test.YtjjpdnpbhdcpbaaGreatLay
import Derived.Test.YtjjpdnpbhdcpbaaGreatQShaB
import Derived.Laws.CopyRow
import Derived.Laws.IdiomStrings
import Derived.Lib.Bytealg
import Derived.Laws.MakeOwn
import Derived.Test.YtjjpdnpbhdcpbaaGreatLayL
import Derived.Test.YtjjpdnpbhdcpbaaGreatQCdA
import Derived.Lib.Builder
import Derived.Lib.UnsafeStr
import Derived.Lib.AppendStr
import Derived.Lib.FrozenHead
import Derived.Test.YtjjpdnpbhdcpbaaGreatHMkB
import Derived.Test.YtjjpdnpbhdcpbaaGreatQMkB
import Derived.Test.YtjjpdnpbhdcpbaaGreatLayR
import Derived.Lib.OthersKept
import Derived.Test.YtjjpdnpbhdcpbaaGreatQSgD
import Derived.RangeFuncNested
import Derived.RangeFuncBound
import Derived.RangeFuncCalls
import Derived.RangeFuncLeaves
import Derived.Shelf.Abstract
import Derived.Shelf.RegionOpen
import Derived.OwnWalkIn
import Derived.TacticsInMore
import Derived.LoopNIn
import Derived.LoopIn
import Derived.Lib.FrozenHead2
import Derived.OrdersIn
import Derived.RangeFuncFrom
import Derived.Laws.ResultCell
import Derived.Test.YtjjpdnpbhdcpbaaGreatQCdB
import Derived.Laws.DeepNot64
import Derived.Test.YtjjpdnpbhdcpbaaGreatQSgL
import Derived.Maps.OwnSet
import Derived.Deep.AppendLies
import Derived.Deep.RegionLaw
namespace Go.Proofs.YtjjpdnpbhdcpbaaGreat
set_option linter.unusedVariables false
open Go.RowKit Go.Shelf
attribute [local go_sem] Oper.semAt_some
set_option maxRecDepth 20000 in
set_option maxHeartbeats 4000000 in
theorem honest_bad (AD AV : Option Addr) (d0 J cD cV : Nat) (q1 : Bool) (w : World)
 (kF1 : ∀ W, Below w.heap.size w W → Calls Tryz.prog 34 #[.slice AD d0 cD] W (fun e w' => e = .returned (.bool q1) ∧ W = w'))
 (hno : 20 < d0 ∨ q1 = false ∨ 4 < J) :
 Calls Tryz.prog 8 #[.slice AD d0 cD, .slice AV J cV] w fun e w' => e = .returned (.bool true) ∧ Below w.heap.size w w' := by
 go_enter Tryz.func8, Tryz.ntmps8
 go_wp2_with fail
 refine (awake_ck _).mono ?_
 rintro e w1 ⟨rfl, b1⟩
 by_cases h1 : d0 ≤ 20
 ·have h1' : ¬ ((20 : Int) < (d0 : Int)) := by omega
  go_wp2_with fail
  refine (kF1 _ b1).mono ?_
  rintro e w' ⟨rfl, rfl⟩
  cases q1 with
  | false =>
    clear hno
    go_wp2
    go_ret
    exact ⟨rfl, b1⟩
  | true =>
    have h2' : (4 : Int) < (J : Int) := by
     rcases hno with h | h | h
     ·omega
     ·cases h
     ·omega
    clear hno
    go_wp2
    go_ret
    exact ⟨rfl, b1⟩
 ·have h1' : (20 : Int) < (d0 : Int) := by omega
  clear hno kF1
  go_wp2
  go_ret
  exact ⟨rfl, b1⟩
theorem root_ne {L : List Sg.Str} (hL : Mk.AllD L) (hl : L.length ≤ 4096) : ¬ mRoot L = [] := fun e => by
 have := Mk.rootD hL
 rw [← mRoot_ok hL hl, e] at this
 cases this
set_option maxHeartbeats 4000000 in
theorem ckHonest_walk (AD : Option Addr) (D : List Sg.Str) (cD : Nat) (AV : Option Addr) (V : List UInt8) (cV : Nat) (w : World) (hD : Rd w AD (strs D)) (hDw : weight D ≤ 1073741824) (hV : Rd w AV (vals V)) :
 Calls Tryz.prog 8 #[.slice AD D.length cD, .slice AV V.length cV] w fun e w' => e = .returned (.bool true) ∧ Below w.heap.size w w' := by
 have kF1 := fun W (hb : Below w.heap.size w W) => mfew_spec AD D cD W (hD.below hb) (by omega)
 by_cases h1 : D.length ≤ 20
 ·cases n3 : fewB D with
  | false => rw [n3] at kF1; exact honest_bad AD AV D.length V.length cD cV false w kF1 (.inr (.inl rfl))
  | true =>
    rw [n3] at kF1
    by_cases h2 : V.length ≤ 4
    ·have kl1 := fun W (hb : Below w.heap.size w W) => leaves_spec AD D cD W (hD.below hb) hDw
     have hL := leaf_dig D
     have hN : (D.map Mk.leaf).length = D.length := List.length_map ..
     have d1 : ¬ ((20 : Int) < (D.length : Int)) := by omega
     have d2 : ¬ ((4 : Int) < (V.length : Int)) := by omega
     obtain ⟨d0, hd0⟩ : ∃ d0, D.length = d0 := ⟨_, rfl⟩
     rw [hd0] at kF1 kl1 hN d1 h1 ⊢
     generalize D.map Mk.leaf = L at kl1 hL hN
     clear hD hDw n3 hd0
     have klr := fun W => larger_spec 114 W
     have klw := fun W => larger_spec 119 W
     have hsr := sd_len 114
     have hsw := sd_len 119
     rw [show ((114 : UInt8).toNat : Int) = 114 from rfl] at klr
     rw [show ((119 : UInt8).toNat : Int) = 119 from rfl] at klw
     generalize sd 114 = SR at *
     generalize sd 119 = SW at *
     have kpub := fun W => rpublic_spec SR 2 0 W (by omega)
     have hpub := pubR_ok SR 2 hsr (by decide)
     rw [show ((2 : Nat) : Int) = 2 from rfl] at hpub
     rw [hpub] at kpub
     have hvp := vpB_pub SR 2 (by decide)
     have hr0 : rtn L 0 = Sh.sha [] := by
      show Mk.root (L.take 0) = Sh.sha []
      rw [List.take_zero, Mk.root_nil]
     have nw := nw_ok lg (pubK SR 2) SW 2 (by decide) (by decide) hvp hsw (by decide)
     have hPW : (pubK SW 2).length = 33 := pubK_len SW 2
     have hPR : (pubK SR 2).length = 33 := pubK_len SR 2
     have hh := fun (s : Nat) (hs : s ≤ d0) => head_log hL s (by omega)
     refine honest_walk AD AV d0 cD V.length cV d0 L V w d1 d2 hN h1 hV rfl h2 SR SW (pubK SR 2) (pubK SW 2) (rtn L) (fun j s => sgC SR j (Sg.dgs (4 :: headS lg (s : Int) (rtn L s)))) (fun j s => sgC SW j (Sg.dgs (5 :: headS lg (s : Int) (rtn L s)))) (fun j => sgT SR 2 j) (fun j => sgT SW 2 j) (fun m s => (mCon (L.take s) (m : Int)).1) (fun W => awake_ck W) kF1 kl1 klr klw kpub ?knw ?kR ?ks ?kv ?kcon ?kob ?kcos ?kcmp
     case knw =>
      intro W
      have := newwit_spec lg (pubK SR 2) SW ((2 : Nat) : Int) 0 W
      rw [nw, ← hr0] at this
      exact this
     case kR =>
      intro s hs W c A hA a4 a5
      have ht : (L.take s).length = s := by rw [List.length_take]; omega
      have := root_rk A (L.take s) c W (rd_take hA s) (by omega) (by omega) a5
      rw [mRoot_ok (Mk.AllD.take hL s) (by omega), ht] at this
      exact this
     case ks =>
      intro j s hj hs W
      have := cksign_spec SR ((2 : Nat) : Int) (j : Int) lg (s : Int) (rtn L s) W
      rw [ck_sign SR 2 j lg (s : Int) (rtn L s) hsr (by decide) (by omega) (hh s hs)] at this
      exact this
     case kv =>
      intro j s hj hs W A1 A2 n1 n2 r1 r2 u1 u2 u3 u4
      have := ckverify_spec (pubK SR 2) lg (s : Int) (rtn L s) (j : Int) (sgC SR j (Sg.dgs (4 :: headS lg (s : Int) (rtn L s)))) (sgT SR 2 j) A1 A2 none n1 n2 0 0 W r1 r2 u1 u2 u3 u4
      rw [ck_ver 4 SR 2 j lg (s : Int) (rtn L s) (by decide) (by omega) (hh s hs)] at this
      exact this
     case kcon =>
      intro m s hm hs W c A hA a4 a5
      have ht : (L.take s).length = s := by rw [List.length_take]; omega
      have := con_rk A (L.take s) c (m : Int) W (rd_take hA s) (by omega) (by omega) a5
      have hg := mCon_good (L.take s) (m : Int) (root_ne (Mk.AllD.take hL s) (by omega)) (by omega) (by rw [ht]; omega)
      rw [ht] at this
      have e : mCon (L.take s) (m : Int) = ((mCon (L.take s) (m : Int)).1, 0) := Prod.ext rfl hg
      rw [e] at this
      exact this
     case kob =>
      intro j m s hj hm hs W A1 A2 n1 n2 Y d r1 r2 u1 u2 u3 u4 hY a1 a2
      have := observe_spec ⟨lg, pubK SR 2, SW, 2, (j : Int), lg, (m : Int), rtn L m⟩ ⟨lg, (s : Int), rtn L s, (j : Int), A1, sgC SR j (Sg.dgs (4 :: headS lg (s : Int) (rtn L s))), n1, A2, sgT SR 2 j, n2, none, [], 0⟩ Y (mCon (L.take s) (m : Int)).1 d W ⟨r1, r2, u1, u2, u3, u4, ⟨.inl rfl, fun x hx => by cases hx⟩, Nat.le_refl _, Nat.zero_le _⟩ hY a1 a2 (by show SW.length ≤ 1073741824; omega)
      have hv : ckB 4 (pubK SR 2) lg (s : Int) (rtn L s) (j : Int) (sgC SR j (Sg.dgs (4 :: headS lg (s : Int) (rtn L s)))) (sgT SR 2 j) = true := ck_ver 4 SR 2 j lg (s : Int) (rtn L s) (by decide) (by omega) (hh s hs)
      have ho := obs_ok ⟨lg, pubK SR 2, SW, 2, (j : Int), lg, (m : Int), rtn L m⟩ ⟨lg, (s : Int), rtn L s, (j : Int), A1, sgC SR j (Sg.dgs (4 :: headS lg (s : Int) (rtn L s))), n1, A2, sgT SR 2 j, n2, none, [], 0⟩ (mCon (L.take s) (m : Int)).1 2 j hv rfl (by show (m : Int) ≤ (s : Int); omega) (fun h => by (have e : s = m := by (have h' : (s : Int) = (m : Int) := h; omega)); (show rtn L s = rtn L m); rw [e]) (ext_log hL (by omega) m s hm (by omega)) hsw (by decide) (by omega) rfl rfl
      rw [ho] at this
      exact this
     case kcos =>
      intro j s hj hs W A1 A2 n1 n2 X c A5 n5 A6 n6 Y hR a1 a2 hY
      have x1 := ck_ver 5 SW 2 j lg (s : Int) (rtn L s) (by decide) (by omega) (hh s hs)
      have hv : verB (pubK SW 2) (Sg.dgs (5 :: headS lg (s : Int) (rtn L s))) (j : Int) (sgC SW j (Sg.dgs (5 :: headS lg (s : Int) (rtn L s)))) (sgT SW 2 j) = true := by
       have h := x1
       unfold ckB at h
       rw [if_pos (hh s hs)] at h
       exact h
      have := cosigned_spec lg (s : Int) (rtn L s) (j : Int) A1 A2 (sgC SR j (Sg.dgs (4 :: headS lg (s : Int) (rtn L s)))) (sgT SR 2 j) n1 n2 X [⟨pubK SW 2, (j : Int), A5, sgC SW j (Sg.dgs (5 :: headS lg (s : Int) (rtn L s))), n5, A6, sgT SW 2 j, n6⟩] c Y [pubK SW 2, pubK SW 2, pubK SR 2] 3 W hR a1 a2 hY (by simp) (fun x hx => by
       simp only [List.mem_cons, List.not_mem_nil, or_false] at hx
       rcases hx with rfl | rfl | rfl
       ·rw [hPW]; decide
       ·rw [hPW]; decide
       ·rw [hPR]; decide)
      rw [cos_three lg (s : Int) (rtn L s) ⟨pubK SW 2, (j : Int), A5, sgC SW j (Sg.dgs (5 :: headS lg (s : Int) (rtn L s))), n5, A6, sgT SW 2 j, n6⟩ (pubK SR 2) (hh s hs) hv] at this
      exact this
     case kcmp =>
      intro q s hq hs W x y c A hz hr hA a4 a5
      have ht : (L.take s).length = s := by rw [List.length_take]; omega
      have := compare_spec x y A (L.take s) c W (rd_take hA s) (by omega) (by omega) a5
      have hc := cmp_none (L.take s) q y.r y.z (Mk.AllD.take hL s) (by omega)
      rw [List.take_take, Nat.min_eq_left hq] at hc
      rw [hz, hr, hc, ht] at this
      refine this.mono fun e w' ⟨pv, e1, e2⟩ => ?_
      obtain ⟨p1, p3, rfl, _, _⟩ := own_form e2.own
      exact ⟨p1, _, p3, e1, e2.below⟩
    ·exact honest_bad AD AV D.length V.length cD cV true w kF1 (.inr (.inr (by omega)))
 ·exact honest_bad AD AV D.length V.length cD cV (fewB D) w kF1 (.inl (by omega))
end Go.Proofs.YtjjpdnpbhdcpbaaGreat
