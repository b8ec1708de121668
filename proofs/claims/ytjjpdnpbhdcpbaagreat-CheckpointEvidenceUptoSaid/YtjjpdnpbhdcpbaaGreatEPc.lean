/- Lemmas and contracts on what the walks need, several small texts in one. Conditions: as each theorem states. -/
import Derived.Test.YtjjpdnpbhdcpbaaGreatEOpenC
import Derived.Test.YtjjpdnpbhdcpbaaGreatQCkAw
import Derived.Test.YtjjpdnpbhdcpbaaGreatQCkAwA
import Derived.Test.YtjjpdnpbhdcpbaaGreatQPe
import Derived.Test.YtjjpdnpbhdcpbaaGreatECkR
import Derived.Test.YtjjpdnpbhdcpbaaGreatQPd
import Derived.Test.YtjjpdnpbhdcpbaaGreatQCkL
import Derived.Test.YtjjpdnpbhdcpbaaGreatQCkK
import Derived.Test.YtjjpdnpbhdcpbaaGreatQCkJ
import Derived.Test.YtjjpdnpbhdcpbaaGreatQCkI
import Derived.Test.YtjjpdnpbhdcpbaaGreatQCkH
import Derived.Test.YtjjpdnpbhdcpbaaGreatQCkF
import Derived.Test.YtjjpdnpbhdcpbaaGreatQCkE
import Derived.Test.YtjjpdnpbhdcpbaaGreatQPa
import Derived.Test.YtjjpdnpbhdcpbaaGreatEPa
import Derived.Test.YtjjpdnpbhdcpbaaGreatQBase
import Derived.Test.YtjjpdnpbhdcpbaaGreatQCkC
import Derived.Test.YtjjpdnpbhdcpbaaGreatEPb
import Derived.Test.YtjjpdnpbhdcpbaaGreatQPc
import Derived.Test.YtjjpdnpbhdcpbaaGreatESgP
import Derived.Test.YtjjpdnpbhdcpbaaGreatQCdB
import Derived.Test.YtjjpdnpbhdcpbaaGreatProg
import Derived.Test.YtjjpdnpbhdcpbaaGreatQCdA
import Derived.Laws.DeepNot64
import Derived.Test.YtjjpdnpbhdcpbaaGreatEMkB
import Derived.Test.YtjjpdnpbhdcpbaaGreatQMkB
import Derived.Deep.Strs
import Derived.Maps.OwnSet
import Derived.Test.YtjjpdnpbhdcpbaaGreatQPb
import Derived.Test.YtjjpdnpbhdcpbaaGreatQSgJ
import Derived.Test.YtjjpdnpbhdcpbaaGreatQSgI
import Derived.Test.YtjjpdnpbhdcpbaaGreatQSgH
import Derived.Test.YtjjpdnpbhdcpbaaGreatQSgG
import Derived.Test.YtjjpdnpbhdcpbaaGreatQSgF
import Derived.Test.YtjjpdnpbhdcpbaaGreatQShaB
import Derived.Test.YtjjpdnpbhdcpbaaGreatQShaA
import Derived.Laws.BitsAllLaws
import Derived.BigQuiet
import Derived.BigRegion
import Derived.Deep.RegionHeld3
import Derived.Test.YtjjpdnpbhdcpbaaGreatLayC
import Derived.Test.YtjjpdnpbhdcpbaaGreatLay
import Derived.Laws.CopyRow
import Derived.Laws.IdiomStrings
import Derived.Lib.Bytealg
import Derived.Laws.MakeOwn
import Derived.Test.YtjjpdnpbhdcpbaaGreatLayR
import Derived.Lib.OthersKept
import Derived.Test.YtjjpdnpbhdcpbaaGreatQSgD
import Derived.RangeFuncNested
import Derived.RangeFuncBound
import Derived.RangeFuncCalls
import Derived.RangeFuncLeaves
import Derived.Shelf.Abstract
import Derived.Shelf.RegionOpen
import Derived.OwnWalkIn
import Derived.TacticsInMore
import Derived.LoopNIn
import Derived.LoopIn
import Derived.Lib.FrozenHead2
import Derived.OrdersIn
import Derived.RangeFuncFrom
import Derived.Laws.ResultCell
import Derived.Test.YtjjpdnpbhdcpbaaGreatQCkZ
import Derived.Test.YtjjpdnpbhdcpbaaGreatQCkY
import Derived.Test.YtjjpdnpbhdcpbaaGreatQCkX
import Derived.Test.YtjjpdnpbhdcpbaaGreatERkC
import Derived.Test.YtjjpdnpbhdcpbaaGreatERkD
import Derived.Test.YtjjpdnpbhdcpbaaGreatERkQ
import Derived.Test.YtjjpdnpbhdcpbaaGreatELCkEvA
import Derived.Test.YtjjpdnpbhdcpbaaGreatELCkEvB
namespace Go.Proofs.YtjjpdnpbhdcpbaaGreat
set_option linter.unusedVariables false
open Go.RowKit
theorem baseT : BaseT Tryz.prog 3 9 27 := ⟨Tryz.underlying3, Tryz.underlying9, Tryz.underlying27, by kernel_rfl, by kernel_rfl, by kernel_rfl⟩
theorem ckT : CkT Tryz.prog 3 9 27 29 64 30 25 32 :=
 ⟨baseT, ⟨_, _, _, Tryz.underlying29, rfl, rfl, rfl, rfl, rfl, rfl⟩, by kernel_rfl, ⟨_, _, Tryz.underlying64, rfl, rfl, rfl, rfl⟩, by kernel_rfl, Tryz.underlying30, by kernel_rfl, ⟨_, _, _, Tryz.underlying25, rfl, rfl, rfl, rfl, rfl, rfl⟩, by kernel_rfl, ⟨_, _, _, Tryz.underlying32, rfl, rfl, rfl, rfl, rfl, rfl⟩, by kernel_rfl⟩
end Go.Proofs.YtjjpdnpbhdcpbaaGreat
namespace Go.Proofs.YtjjpdnpbhdcpbaaGreat
set_option linter.unusedVariables false
open Go.RowKit Go.Shelf
attribute [local go_sem] Oper.semAt_some
set_option maxRecDepth 20000 in
set_option maxHeartbeats 8000000 in
theorem ckEvidence_walk (pub : Sg.Str) (x y : CkV) (rt : Sg.Str) (Y : Option Addr) (P : List Sg.Str) (d : Nat) (Z : Option Addr) (L : List Sg.Str) (l : Nat) (w : World) (hx : CkV.ok w x) (hfx : CkV.few x) (hy : CkV.ok w y) (hfy : CkV.few y) (hP : Rd w Y (strs P)) (hd : P.length ≤ d) (hdm : d ≤ maxLen) (hPw : weight P ≤ 1099511627776)
 (hL : Rd w Z (strs L)) (hl : L.length ≤ l) (hlm : l ≤ maxLen) (hLw : weight L ≤ 1099511627776) :
 Calls Tryz.prog 7 #[.string ⟨pub.toArray⟩, .agg (evA x y rt (.slice Y P.length d)), .slice Z L.length l] w fun e w' => e = .returned (.bool true) ∧ Below w.heap.size w w' := by
 by_cases n1 : pub.length ≤ 200
 ·by_cases n2 : rt.length ≤ 200
  ·cases n3 : ckFew x.o x.r x.C x.T x.L with
   | false => exact ckEvidence_no pub x y rt Y P d Z L l w hx hfx hy hfy hP hd hdm hPw hL hl hlm hLw (.inr (.inr (.inl n3)))
   | true =>
     cases n4 : ckFew y.o y.r y.C y.T y.L with
     | false => exact ckEvidence_no pub x y rt Y P d Z L l w hx hfx hy hfy hP hd hdm hPw hL hl hlm hLw (.inr (.inr (.inr (.inl n4))))
     | true =>
       by_cases n5 : P.length ≤ 20
       ·cases n6 : fewB P with
        | false => exact ckEvidence_no pub x y rt Y P d Z L l w hx hfx hy hfy hP hd hdm hPw hL hl hlm hLw (.inr (.inr (.inr (.inr (.inr (.inl n6))))))
        | true =>
          by_cases n7 : L.length ≤ 30
          ·cases n8 : fewB L with
           | false => exact ckEvidence_no pub x y rt Y P d Z L l w hx hfx hy hfy hP hd hdm hPw hL hl hlm hLw (.inr (.inr (.inr (.inr (.inr (.inr (.inr n8)))))))
           | true => exact ckEvidence_yes pub x y rt Y P d Z L l w hx hfx hy hfy hP hd hdm hPw hL hl hlm hLw n1 n2 n3 n4 n5 n6 n7 n8
          ·exact ckEvidence_no pub x y rt Y P d Z L l w hx hfx hy hfy hP hd hdm hPw hL hl hlm hLw (.inr (.inr (.inr (.inr (.inr (.inr (.inl (by omega))))))))
       ·exact ckEvidence_no pub x y rt Y P d Z L l w hx hfx hy hfy hP hd hdm hPw hL hl hlm hLw (.inr (.inr (.inr (.inr (.inl (by omega))))))
  ·exact ckEvidence_no pub x y rt Y P d Z L l w hx hfx hy hfy hP hd hdm hPw hL hl hlm hLw (.inr (.inl (by omega)))
 ·exact ckEvidence_no pub x y rt Y P d Z L l w hx hfx hy hfy hP hd hdm hPw hL hl hlm hLw (.inl (by omega))
end Go.Proofs.YtjjpdnpbhdcpbaaGreat
