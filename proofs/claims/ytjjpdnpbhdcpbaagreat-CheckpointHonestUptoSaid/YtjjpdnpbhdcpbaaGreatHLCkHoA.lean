/-
  CheckpointHonest: the walk, over the contracts of what it calls. Conditions: as the theorem states.
-/
import Derived.Test.YtjjpdnpbhdcpbaaGreatHPb
import Derived.Test.YtjjpdnpbhdcpbaaGreatQPe
import Derived.Test.YtjjpdnpbhdcpbaaGreatQCkX
import Derived.Test.YtjjpdnpbhdcpbaaGreatQCkO
import Derived.Test.YtjjpdnpbhdcpbaaGreatQPd
import Derived.Test.YtjjpdnpbhdcpbaaGreatQCkL
import Derived.Test.YtjjpdnpbhdcpbaaGreatQCkK
import Derived.Test.YtjjpdnpbhdcpbaaGreatQCkJ
import Derived.Test.YtjjpdnpbhdcpbaaGreatQCkI
import Derived.Test.YtjjpdnpbhdcpbaaGreatQCkH
import Derived.Test.YtjjpdnpbhdcpbaaGreatQCkF
import Derived.Test.YtjjpdnpbhdcpbaaGreatQCkE
import Derived.Test.YtjjpdnpbhdcpbaaGreatHPa
import Derived.Test.YtjjpdnpbhdcpbaaGreatQPa
import Derived.Test.YtjjpdnpbhdcpbaaGreatQCkC
import Derived.Test.YtjjpdnpbhdcpbaaGreatQPc
import Derived.Test.YtjjpdnpbhdcpbaaGreatQPb
import Derived.Test.YtjjpdnpbhdcpbaaGreatQSgJ
import Derived.Test.YtjjpdnpbhdcpbaaGreatQSgI
import Derived.Test.YtjjpdnpbhdcpbaaGreatQSgH
import Derived.Test.YtjjpdnpbhdcpbaaGreatQSgG
import Derived.Test.YtjjpdnpbhdcpbaaGreatQSgF
import Derived.Test.YtjjpdnpbhdcpbaaGreatQMkA
import Derived.Test.YtjjpdnpbhdcpbaaGreatLayJ
import Derived.Test.YtjjpdnpbhdcpbaaGreatQBase
import Derived.Test.YtjjpdnpbhdcpbaaGreatQShaA
import Derived.Test.YtjjpdnpbhdcpbaaGreatProg
import Derived.Laws.BitsAllLaws
import Derived.BigQuiet
import Derived.BigRegion
import Derived.Deep.RegionHeld3
import Derived.Test.YtjjpdnpbhdcpbaaGreatLayC
import Derived.Test.YtjjpdnpbhdcpbaaGreatLay
import Derived.Test.YtjjpdnpbhdcpbaaGreatQShaB
import Derived.Laws.CopyRow
import Derived.Laws.IdiomStrings
import Derived.Lib.Bytealg
import Derived.Laws.MakeOwn
import Derived.Test.YtjjpdnpbhdcpbaaGreatLayL
import Derived.Test.YtjjpdnpbhdcpbaaGreatQCdA
import Derived.Lib.Builder
import Derived.Lib.UnsafeStr
import Derived.Lib.AppendStr
import Derived.Lib.FrozenHead
import Derived.Test.YtjjpdnpbhdcpbaaGreatHMkB
import Derived.Test.YtjjpdnpbhdcpbaaGreatQMkB
import Derived.Test.YtjjpdnpbhdcpbaaGreatLayR
import Derived.Lib.OthersKept
import Derived.Test.YtjjpdnpbhdcpbaaGreatQSgD
import Derived.RangeFuncNested
import Derived.RangeFuncBound
import Derived.RangeFuncCalls
import Derived.RangeFuncLeaves
import Derived.Shelf.Abstract
import Derived.Shelf.RegionOpen
import Derived.OwnWalkIn
import Derived.TacticsInMore
import Derived.LoopNIn
import Derived.LoopIn
import Derived.Lib.FrozenHead2
import Derived.OrdersIn
import Derived.RangeFuncFrom
import Derived.Laws.ResultCell
import Derived.Test.YtjjpdnpbhdcpbaaGreatQCdB
import Derived.Laws.DeepNot64
import Derived.Test.YtjjpdnpbhdcpbaaGreatQSgL
import Derived.Maps.OwnSet
import Derived.Deep.AppendLies
import Derived.Deep.RegionLaw
import Derived.Test.YtjjpdnpbhdcpbaaGreatQCkZ
import Derived.Test.YtjjpdnpbhdcpbaaGreatQCkY
namespace Go.Proofs.YtjjpdnpbhdcpbaaGreat
set_option linter.unusedVariables false
open Go.RowKit Go.Shelf
attribute [local go_sem] Oper.semAt_some
def ckC (x : CkV) : List Value := (ckA x).toList
theorem ck_get {w : World} {b : Nat} {Cs : List CkV} (h : Rd w (some ⟨b, 0, none⟩) (Cs.flatMap ckC)) {k : Nat} (hk : k < Cs.length) :
 w.cell? ⟨b, k * 7, none⟩ = some (.string ⟨Cs[k].o.toArray⟩) ∧ w.cell? ⟨b, k * 7 + 1, none⟩ = some (.int .i64 Cs[k].z) ∧ w.cell? ⟨b, k * 7 + 2, none⟩ = some (.string ⟨Cs[k].r.toArray⟩) ∧ w.cell? ⟨b, k * 7 + 3, none⟩ = some (.int .i64 Cs[k].i) ∧ w.cell? ⟨b, k * 7 + 4, none⟩ = some (.slice Cs[k].A Cs[k].C.length Cs[k].a) ∧ w.cell? ⟨b, k * 7 + 5, none⟩ = some (.slice Cs[k].B Cs[k].T.length Cs[k].b) ∧ w.cell? ⟨b, k * 7 + 6, none⟩ = some (.slice Cs[k].X Cs[k].L.length Cs[k].c) := by
 have hl := flat_len ckC 7 (fun _ => rfl) Cs
 have hg := fun j (hj : j < 7) => flat_get ckC 7 (fun _ => rfl) Cs k j hk hj
 rcases h with h0 | ⟨b', o', e', hc⟩
 ·rw [h0, List.length_nil] at hl
  omega
 ·injection e' with e'
  injection e' with e1 e2
  subst e1 e2
  have hcc : ∀ j (hj : j < 7) u, (ckC Cs[k])[j]? = some u → w.cell? ⟨b, k * 7 + j, none⟩ = some u := fun j hj u hu => by
   have h1 := hg j hj
   rw [hu] at h1
   obtain ⟨h2, h3⟩ := List.getElem?_eq_some_iff.1 h1
   have h4 := hc (k * 7 + j) h2
   rw [Nat.zero_add] at h4
   rw [h4, h3]
  exact ⟨hcc 0 (by omega) _ rfl, hcc 1 (by omega) _ rfl, hcc 2 (by omega) _ rfl, hcc 3 (by omega) _ rfl, hcc 4 (by omega) _ rfl, hcc 5 (by omega) _ rfl, hcc 6 (by omega) _ rfl⟩
theorem info_ck : (Tryz.prog.info? 32).map (fun i => (i.zero, i.size, i.bytes)) = some (some (.agg #[.string ⟨#[]⟩, .int .i64 0, .string ⟨#[]⟩, .int .i64 0, .slice none 0 0, .slice none 0 0, .slice none 0 0]), 7, 120) := by kernel_rfl
theorem bk16 {w : World} {g : Nat} {t : TypeId} {cs : Array Value} (h : Blk w g t cs) : w.cell? ⟨g, 0, none⟩ = cs[0]? ∧ w.frozen? ⟨g, 0, none⟩ = false ∧ w.cell? ⟨g, 1, none⟩ = cs[1]? ∧ w.frozen? ⟨g, 1, none⟩ = false ∧ w.cell? ⟨g, 2, none⟩ = cs[2]? ∧ w.frozen? ⟨g, 2, none⟩ = false ∧ w.cell? ⟨g, 3, none⟩ = cs[3]? ∧ w.frozen? ⟨g, 3, none⟩ = false ∧ w.cell? ⟨g, 4, none⟩ = cs[4]? ∧ w.frozen? ⟨g, 4, none⟩ = false ∧ w.cell? ⟨g, 5, none⟩ = cs[5]? ∧ w.frozen? ⟨g, 5, none⟩ = false ∧ w.cell? ⟨g, 6, none⟩ = cs[6]? ∧ w.frozen? ⟨g, 6, none⟩ = false ∧ w.cell? ⟨g, 7, none⟩ = cs[7]? ∧ w.frozen? ⟨g, 7, none⟩ = false ∧ w.cell? ⟨g, 8, none⟩ = cs[8]? ∧ w.frozen? ⟨g, 8, none⟩ = false ∧ w.cell? ⟨g, 9, none⟩ = cs[9]? ∧ w.frozen? ⟨g, 9, none⟩ = false ∧ w.cell? ⟨g, 10, none⟩ = cs[10]? ∧ w.frozen? ⟨g, 10, none⟩ = false ∧ w.cell? ⟨g, 11, none⟩ = cs[11]? ∧ w.frozen? ⟨g, 11, none⟩ = false ∧ w.cell? ⟨g, 12, none⟩ = cs[12]? ∧ w.frozen? ⟨g, 12, none⟩ = false ∧ w.cell? ⟨g, 13, none⟩ = cs[13]? ∧ w.frozen? ⟨g, 13, none⟩ = false ∧ w.cell? ⟨g, 14, none⟩ = cs[14]? ∧ w.frozen? ⟨g, 14, none⟩ = false ∧ w.cell? ⟨g, 15, none⟩ = cs[15]? ∧ w.frozen? ⟨g, 15, none⟩ = false := ⟨h.cell 0, h.frozen 0, h.cell 1, h.frozen 1, h.cell 2, h.frozen 2, h.cell 3, h.frozen 3, h.cell 4, h.frozen 4, h.cell 5, h.frozen 5, h.cell 6, h.frozen 6, h.cell 7, h.frozen 7, h.cell 8, h.frozen 8, h.cell 9, h.frozen 9, h.cell 10, h.frozen 10, h.cell 11, h.frozen 11, h.cell 12, h.frozen 12, h.cell 13, h.frozen 13, h.cell 14, h.frozen 14, h.cell 15, h.frozen 15⟩
theorem rd_strs3h {W : World} {g : Nat} {t : TypeId} {a b c : Sg.Str} (h : Blk W g t #[.string ⟨a.toArray⟩, .string ⟨b.toArray⟩, .string ⟨c.toArray⟩]) : Rd W (some ⟨g, 0, none⟩) (strs [a, b, c]) := by
 refine .inr ⟨g, 0, rfl, fun j hj => ?_⟩
 rw [Nat.zero_add]
 refine (h.cell j).trans ?_
 match j, hj with
 | 0, _ => rfl
 | 1, _ => rfl
 | 2, _ => rfl
set_option maxRecDepth 20000 in
set_option maxHeartbeats 16000000 in
theorem honest_walk (AD AV0 : Option Addr) (d0 cD J cV N : Nat) (L : List Sg.Str) (V : List UInt8) (w : World) (h1 : ¬ ((20 : Int) < (d0 : Int))) (h2 : ¬ ((4 : Int) < (J : Int))) (hN : L.length = N) (hN20 : N ≤ 20) (hV : Rd w AV0 (vals V)) (hVl : V.length = J) (hJ4 : J ≤ 4)
 (SR SW PR PW : Sg.Str) (R : Nat → Sg.Str) (cA cX : Nat → Nat → List Sg.Str) (tA tX : Nat → List Sg.Str) (P : Nat → Nat → List Sg.Str)
 (ha : ∀ W, Calls Tryz.prog 11 #[] W (fun e w' => e = .returned (.bool true) ∧ Below W.heap.size W w'))
 (kF1 : ∀ W, Below w.heap.size w W → Calls Tryz.prog 34 #[.slice AD d0 cD] W (fun e w' => e = .returned (.bool true) ∧ W = w'))
 (kl1 : ∀ W, Below w.heap.size w W → Calls Tryz.prog 43 #[.slice AD d0 cD] W (SlR L W))
 (klr : ∀ W, Calls Tryz.prog 45 #[.int .u8 114] W (fun e w' => e = .returned (.agg #[.string ⟨SR.toArray⟩, .int .i64 2, .int .i64 0]) ∧ Below W.heap.size W w'))
 (klw : ∀ W, Calls Tryz.prog 45 #[.int .u8 119] W (fun e w' => e = .returned (.agg #[.string ⟨SW.toArray⟩, .int .i64 2, .int .i64 0]) ∧ Below W.heap.size W w'))
 (kpub : ∀ W, Calls Tryz.prog 44 #[.agg #[.string ⟨SR.toArray⟩, .int .i64 2, .int .i64 0]] W (fun e w' => e = .returned (.tuple #[.string ⟨PR.toArray⟩, .int .i64 0]) ∧ Below W.heap.size W w'))
 (knw : ∀ W, Calls Tryz.prog 14 #[.string ⟨#[108, 111, 103]⟩, .string ⟨PR.toArray⟩, .agg #[.string ⟨SW.toArray⟩, .int .i64 2, .int .i64 0]] W (fun e w' => e = .returned (.tuple #[.agg #[.string ⟨#[108, 111, 103]⟩, .string ⟨PR.toArray⟩, .string ⟨SW.toArray⟩, .int .i64 2, .int .i64 0, .string ⟨#[108, 111, 103]⟩, .int .i64 0, .string ⟨(R 0).toArray⟩], .int .i64 0]) ∧ Below W.heap.size W w'))
 (kR : ∀ (s : Nat), s ≤ N → ∀ W c A, Rd W A (strs L) → N ≤ c → c ≤ maxLen → Calls Tryz.prog 46 #[.slice A s c] W (fun e w' => e = .returned (.string ⟨(R s).toArray⟩) ∧ Below W.heap.size W w'))
 (ks : ∀ (j s : Nat), j < 4 → s ≤ N → ∀ W, Calls Tryz.prog 12 #[.agg #[.string ⟨SR.toArray⟩, .int .i64 2, .int .i64 (j : Int)], .agg #[.string ⟨#[108, 111, 103]⟩, .int .i64 (s : Int), .string ⟨(R s).toArray⟩]] W (fun e w' => ∃ a b, e = .returned (.tuple #[.agg #[.string ⟨#[108, 111, 103]⟩, .int .i64 (s : Int), .string ⟨(R s).toArray⟩, .int .i64 (j : Int), a, b, .slice none 0 0], .agg #[.string ⟨SR.toArray⟩, .int .i64 2, .int .i64 ((j : Int) + 1)], .int .i64 0]) ∧ St W.heap.size W w' [ownR 9 1 a (cA j s).length (strs (cA j s)), ownR 9 1 b (tA j).length (strs (tA j))]))
 (kv : ∀ (j s : Nat), j < 4 → s ≤ N → ∀ W A1 A2 n1 n2, Rd W A1 (strs (cA j s)) → Rd W A2 (strs (tA j)) → (cA j s).length ≤ n1 → n1 ≤ maxLen → (tA j).length ≤ n2 → n2 ≤ maxLen → Calls Tryz.prog 26 #[.string ⟨PR.toArray⟩, .agg #[.string ⟨#[108, 111, 103]⟩, .int .i64 (s : Int), .string ⟨(R s).toArray⟩, .int .i64 (j : Int), .slice A1 (cA j s).length n1, .slice A2 (tA j).length n2, .slice none 0 0]] W (fun e w' => e = .returned (.bool true) ∧ Below W.heap.size W w'))
 (kcon : ∀ (m s : Nat), m ≤ s → s ≤ N → ∀ W c A, Rd W A (strs L) → N ≤ c → c ≤ maxLen → Calls Tryz.prog 47 #[.slice A s c, .int .i64 (m : Int)] W (PrP (P m s, 0) W))
 (kob : ∀ (j m s : Nat), j < 4 → m ≤ s → s ≤ N → ∀ W A1 A2 n1 n2 Y d, Rd W A1 (strs (cA j s)) → Rd W A2 (strs (tA j)) → (cA j s).length ≤ n1 → n1 ≤ maxLen → (tA j).length ≤ n2 → n2 ≤ maxLen → Rd W Y (strs (P m s)) → (P m s).length ≤ d → d ≤ maxLen → Calls Tryz.prog 35 #[.agg #[.string ⟨#[108, 111, 103]⟩, .string ⟨PR.toArray⟩, .string ⟨SW.toArray⟩, .int .i64 2, .int .i64 (j : Int), .string ⟨#[108, 111, 103]⟩, .int .i64 (m : Int), .string ⟨(R m).toArray⟩], .agg #[.string ⟨#[108, 111, 103]⟩, .int .i64 (s : Int), .string ⟨(R s).toArray⟩, .int .i64 (j : Int), .slice A1 (cA j s).length n1, .slice A2 (tA j).length n2, .slice none 0 0], .slice Y (P m s).length d] W (fun e w' => ∃ a b, e = .returned (.tuple #[.agg #[.string ⟨#[108, 111, 103]⟩, .string ⟨PR.toArray⟩, .string ⟨SW.toArray⟩, .int .i64 2, .int .i64 ((j : Int) + 1), .string ⟨#[108, 111, 103]⟩, .int .i64 (s : Int), .string ⟨(R s).toArray⟩], .agg #[.string ⟨PW.toArray⟩, .int .i64 (j : Int), a, b], .int .i64 0]) ∧ St W.heap.size W w' [ownR 9 1 a (cX j s).length (strs (cX j s)), ownR 9 1 b (tX j).length (strs (tX j))]))
 (kcos : ∀ (j s : Nat), j < 4 → s ≤ N → ∀ W A1 A2 n1 n2 X c A5 n5 A6 n6 Y, RowsR W X [(⟨PW, (j : Int), A5, cX j s, n5, A6, tX j, n6⟩ : SgRow)] → 1 ≤ c → c ≤ maxLen → Rd W Y (strs [PW, PW, PR]) → Calls Tryz.prog 28 #[.agg #[.string ⟨#[108, 111, 103]⟩, .int .i64 (s : Int), .string ⟨(R s).toArray⟩, .int .i64 (j : Int), .slice A1 (cA j s).length n1, .slice A2 (tA j).length n2, .slice X 1 c], .slice Y 3 3] W (fun e w' => e = .returned (.int .i64 1) ∧ Below W.heap.size W w'))
 (kcmp : ∀ (q s : Nat), q ≤ s → s ≤ N → ∀ W (x y : CkV) c A, x.z = (q : Int) → x.r = R q → Rd W A (strs L) → N ≤ c → c ≤ maxLen → Calls Tryz.prog 38 #[.agg (ckA x), .agg (ckA y), .slice A s c] W (fun e w' => ∃ p1 p2 p3, e = .returned (.tuple #[.agg #[.string ⟨#[]⟩, .int .i64 0, .string ⟨#[]⟩, .int .i64 0, .slice none 0 0, .slice none 0 0, .slice none 0 0, .string ⟨#[]⟩, .int .i64 0, .string ⟨#[]⟩, .int .i64 0, .slice none 0 0, .slice none 0 0, .slice none 0 0, .string ⟨#[]⟩, .slice p1 p2 p3], .bool false]) ∧ Below W.heap.size W w'))
 :
  Calls Tryz.prog 8 #[.slice AD d0 cD, .slice AV0 J cV] w fun e w' => e = .returned (.bool true) ∧ Below w.heap.size w w' := by
  have HV := Lib.hid (And.intro hV (And.intro hVl (And.intro hJ4 hN20)))
  clear hV
  go_enter Tryz.func8, Tryz.ntmps8
  go_wp2_with fail
  refine (ha _).mono ?_
  rintro e w1 ⟨rfl, b1⟩
  go_wp2_with fail
  refine (kF1 _ b1).mono ?_
  rintro e w' ⟨rfl, rfl⟩
  go_wp2_with fail
  refine (kl1 _ b1).mono ?_
  rintro e w2 ⟨P1, c1, rfl, hc1, hm1, t1⟩
  have y2 := ((St.nil w).under b1).join t1
  rw [hN] at hc1 y2 ⊢
  replace y2 : St w.heap.size w w2 [ownR 9 1 (.slice P1 N c1) N (strs L)] := y2
  clear t1 b1 kF1 kl1 ha
  go_wp2_with fail
  refine (klr _).mono ?_
  rintro e w3 ⟨rfl, b3⟩
  have y3 := y2.under b3
  go_wp2_with fail
  refine (kpub _).mono ?_
  rintro e w4 ⟨rfl, b4⟩
  have y4 := y3.under b4
  go_wp2_with fail
  refine (klr _).mono ?_
  rintro e w5 ⟨rfl, b5⟩
  have y5 := (y4.under b5).alloc 23 #[.string ⟨SR.toArray⟩, .int .i64 2, .int .i64 0]
  go_wp2_with fail
  obtain ⟨pk, hpk⟩ : ∃ q, w5.heap.size = q := ⟨_, rfl⟩
  rw [hpk] at y5 ⊢
  clear b3 b4 b5 y2 y3 y4 kpub hpk
  refine (klw _).mono ?_
  rintro e w6 ⟨rfl, b6⟩
  have y6 := y5.under b6
  clear b6 y5
  go_wp2_with fail
  refine (knw _).mono ?_
  rintro e w7 ⟨rfl, b7⟩
  have plt := (y6.under b7).blk.lt
  have y7 := (y6.under b7).alloc 37 #[.string ⟨#[108, 111, 103]⟩, .string ⟨PR.toArray⟩, .string ⟨SW.toArray⟩, .int .i64 2, .int .i64 0, .string ⟨#[108, 111, 103]⟩, .int .i64 0, .string ⟨(R 0).toArray⟩]
  clear b7 y6 knw klr klw
  have Y7 := Lib.hid (y7.new_own (e := 32) (size := 7) (v := .slice none 0 0) (n := 0) (xs := []) (Below.refl _ _) (World.ownsRow_nil _ _ _ _))
  clear y7
  go_wp2_with fail
  obtain ⟨pw, hpw⟩ : ∃ q, w7.heap.size = q := ⟨_, rfl⟩
  rw [hpw] at Y7 plt ⊢
  clear hpw
  have pne1 : ¬ (pk = pw) := Nat.ne_of_lt plt
  have pne2 : ¬ (pw = pk) := Nat.ne_of_gt plt
  clear plt
  go_loopw [60, 11, 12] (fun i lv av wr => ∃ (j m : Nat) (Cs : List CkV), j ≤ J ∧ i = .int .i64 (j : Int) ∧ lv = .int .i64 (m : Int) ∧ m ≤ N ∧ (∀ x ∈ Cs, ∃ q : Nat, q ≤ m ∧ x.z = (q : Int) ∧ x.r = R q) ∧ Cs.length = j ∧ St w.heap.size w wr [cellsR (pw) 37 #[.string ⟨#[108, 111, 103]⟩, .string ⟨PR.toArray⟩, .string ⟨SW.toArray⟩, .int .i64 2, .int .i64 (j : Int), .string ⟨#[108, 111, 103]⟩, .int .i64 (m : Int), .string ⟨(R m).toArray⟩], cellsR (pk) 23 #[.string ⟨SR.toArray⟩, .int .i64 2, .int .i64 (j : Int)], ownR 32 7 av j (Cs.flatMap ckC), ownR 9 1 (.slice P1 N c1) N (strs L)]) (fun i _ _ _ => J - (intOf i).toNat)
  case atStart => exact ⟨0, 0, [], Nat.zero_le _, rfl, rfl, Nat.zero_le _, (fun _ hx => absurd hx List.not_mem_nil), rfl, Y7.out.pk [1, 2, 0, 3]⟩
  case round =>
   clear Y7
   obtain ⟨j, m, Cs, hj, rfl, rfl, hmN, hCs, hCl, h⟩ := hrel
   obtain ⟨wz, rfl⟩ : ∃ wz, wz = wr := ⟨_, rfl⟩
   have j0 : (0 : Int) ≤ (j : Int) := Int.natCast_nonneg _
   by_cases hlt : j < J
   ·have j1 : (j : Int) < (J : Int) := Int.ofNat_lt.2 hlt
    obtain ⟨sb, so, hAL, -⟩ := rd_val ((HV.out.1).below h.below) (show j < V.length by rw [HV.out.2.1]; exact hlt)
    subst hAL
    have c0 := rd_val_at ((HV.out.1).below h.below) (show j < V.length by rw [HV.out.2.1]; exact hlt)
    have hj4 : j < 4 := Nat.lt_of_lt_of_le hlt HV.out.2.2.1
    obtain ⟨n, hn⟩ : ∃ n, (V[j]'(by rw [HV.out.2.1]; exact hlt)).toNat = n := ⟨_, rfl⟩
    have hn256 : n < 256 := by rw [← hn]; exact UInt8.toNat_lt _
    rw [hn] at c0
    obtain ⟨s, hs⟩ : ∃ s, m + n % (N - m + 1) = s := ⟨_, rfl⟩
    have hms : m ≤ s := by omega
    have hsN : s ≤ N := by rw [← hs]; have := Nat.mod_lt n (show 0 < N - m + 1 by omega); omega
    obtain ⟨z, hz⟩ : ∃ z, N - m = z := ⟨_, rfl⟩
    have hz1 : (N : Int) - (m : Int) = (z : Int) := by omega
    have hzz : ((z : Int) + 1 == 0) = false := beq_eq_false_iff_ne.2 (by omega)
    have hzz2 : ¬ (z : Int) + 1 = 0 := by omega
    have hmod : (n : Int).tmod ((z : Int) + 1) = ((n % (z + 1) : Nat) : Int) := by rw [show (z : Int) + 1 = ((z + 1 : Nat) : Int) from rfl, tmod_nat]
    obtain ⟨r, hr⟩ : ∃ r, n % (z + 1) = r := ⟨_, rfl⟩
    rw [hr] at hmod
    have hmod2 : (n : Int) % ((z : Int) + 1) = (r : Int) := by rw [← hr]; rfl
    have hsr : (m : Int) + (r : Int) = (s : Int) := by rw [← hs, ← hr, ← hz]; rfl
    have hw1 := (wraps_nat s (by omega)).2
    have hw2 := (wraps_nat z (by omega)).2
    have hw3 := (wraps_succ z (by omega)).2
    have s0 : (0 : Int) ≤ (s : Int) := Int.natCast_nonneg _
    have s1 : (s : Int) ≤ (c1 : Int) := Int.ofNat_le.2 (Nat.le_trans hsN hc1)
    obtain ⟨AV, vc, rfl, hv1, hv2⟩ := own_form h.tail.tail.own
    have HQ := Lib.hid (And.intro hCs (And.intro hCl (And.intro hlt (And.intro hms (And.intro hsN (And.intro hj4 (And.intro hmN (And.intro hv1 hv2))))))))
    have ksj := ks j s hj4 hsN
    have kRs := kR s hsN
    have kvj := kv j s hj4 hsN
    have kcj := kcon m s hms hsN
    have koj := kob j m s hj4 hms hsN
    have kxj := kcos j s hj4 hsN
    clear hCs hCl hlt hj hn hs hz hr hms hv1 hv2 hj4
    go_wp2_with fail
    have hS : ∀ W', Blk W' pk 23 #[.string ⟨SR.toArray⟩, .int .i64 2, .int .i64 (j : Int)] → (W'.cell? ⟨pk, 0, none⟩ = some (.string ⟨SR.toArray⟩) ∧ W'.cell? ⟨pk, 1, none⟩ = some (.int .i64 2) ∧ W'.cell? ⟨pk, 2, none⟩ = some (.int .i64 (j : Int))) := fun W' hh => ⟨hh.cell 0, hh.cell 1, hh.cell 2⟩
    apply region_via6 (fun (pc pn : Nat) (A1 A2 : Option Addr) (n1 n2 : Nat) w' => St w.heap.size w w' [cellsR (pc) 32 #[.string ⟨#[108, 111, 103]⟩, .int .i64 (s : Int), .string ⟨(R s).toArray⟩, .int .i64 (j : Int), .slice A1 (cA j s).length n1, .slice A2 (tA j).length n2, .slice none 0 0], cellsR (pn) 23 #[.string ⟨SR.toArray⟩, .int .i64 2, .int .i64 ((j : Int) + 1)], ownR 9 1 (.slice A1 (cA j s).length n1) (cA j s).length (strs (cA j s)), ownR 9 1 (.slice A2 (tA j).length n2) (tA j).length (strs (tA j)), cellsR (pw) 37 #[.string ⟨#[108, 111, 103]⟩, .string ⟨PR.toArray⟩, .string ⟨SW.toArray⟩, .int .i64 2, .int .i64 (j : Int), .string ⟨#[108, 111, 103]⟩, .int .i64 (m : Int), .string ⟨(R m).toArray⟩], cellsR (pk) 23 #[.string ⟨SR.toArray⟩, .int .i64 2, .int .i64 (j : Int)], ownR 32 7 (.slice AV j vc) j (Cs.flatMap ckC), ownR 9 1 (.slice P1 N c1) N (strs L)])
    case h =>
     have q0 := h.drew
     have sf := hS _ (q0.tail.blk)
     clear q0
     have qG0 := (h.alloc 32 #[.string ⟨#[]⟩, .int .i64 0, .string ⟨#[]⟩, .int .i64 0, .slice none 0 0, .slice none 0 0, .slice none 0 0]).drew
     have sfG := hS _ (qG0.tail.tail.blk)
     clear qG0
     have qGJ0 := ((h.alloc 32 #[.string ⟨#[]⟩, .int .i64 0, .string ⟨#[]⟩, .int .i64 0, .slice none 0 0, .slice none 0 0, .slice none 0 0]).alloc 23 #[.string ⟨#[]⟩, .int .i64 0, .int .i64 0]).drew
     have sfGJ := hS _ (qGJ0.tail.tail.tail.blk)
     clear qGJ0
     have qJ0 := (h.alloc 23 #[.string ⟨#[]⟩, .int .i64 0, .int .i64 0]).drew
     have sfJ := hS _ (qJ0.tail.tail.blk)
     clear qJ0
     have qJG0 := ((h.alloc 23 #[.string ⟨#[]⟩, .int .i64 0, .int .i64 0]).alloc 32 #[.string ⟨#[]⟩, .int .i64 0, .string ⟨#[]⟩, .int .i64 0, .slice none 0 0, .slice none 0 0, .slice none 0 0]).drew
     have sfJG := hS _ (qJG0.tail.tail.tail.blk)
     clear qJG0
     refine wp_region_noPanic ?_
     refine wp_region_held_drew (S := (fun W' => W'.cell? ⟨pk, 0, none⟩ = some (.string ⟨SR.toArray⟩) ∧ W'.cell? ⟨pk, 1, none⟩ = some (.int .i64 2) ∧ W'.cell? ⟨pk, 2, none⟩ = some (.int .i64 (j : Int)))) (by kernel_rfl) ?_ (fun hH0 => ?_)
     ·with_reducible exact sf
     refine tk 0 75 hH0 ?_
     refine tk 1 76 hH0 ?_
     refine tk 2 77 hH0 ?_
     refine tk 3 78 hH0 ?_
     refine tk 4 79 hH0 ?_
     refine rdy [5, 12, 13] ?_
     refine ad 80 (fun K hK => ?_) ?_
     go_simp; (
      (with_reducible refine (kRs _ _ _ (Rd.of_own (h.drew.tail.tail.tail.own)) hc1 hm1).mono ?_)
      rintro e wR ⟨rfl, bR⟩
      have yR := h.drew.under bR
      have sfR := hS _ (yR.tail.blk)
      have qRG0 := (yR.alloc 32 #[.string ⟨#[]⟩, .int .i64 0, .string ⟨#[]⟩, .int .i64 0, .slice none 0 0, .slice none 0 0, .slice none 0 0])
      have sfRG := hS _ (qRG0.tail.tail.blk)
      clear qRG0
      have qRGJ0 := ((yR.alloc 32 #[.string ⟨#[]⟩, .int .i64 0, .string ⟨#[]⟩, .int .i64 0, .slice none 0 0, .slice none 0 0, .slice none 0 0]).alloc 23 #[.string ⟨#[]⟩, .int .i64 0, .int .i64 0])
      have sfRGJ := hS _ (qRGJ0.tail.tail.tail.blk)
      clear qRGJ0
      have qRJ0 := (yR.alloc 23 #[.string ⟨#[]⟩, .int .i64 0, .int .i64 0])
      have sfRJ := hS _ (qRJ0.tail.tail.blk)
      clear qRJ0
      have qRJG0 := ((yR.alloc 23 #[.string ⟨#[]⟩, .int .i64 0, .int .i64 0]).alloc 32 #[.string ⟨#[]⟩, .int .i64 0, .string ⟨#[]⟩, .int .i64 0, .slice none 0 0, .slice none 0 0, .slice none 0 0])
      have sfRJG := hS _ (qRJG0.tail.tail.tail.blk)
      clear qRJG0); go_wp2_with fail
     refine hK.out _ _ (by with_reducible exact sfR) fun hH1 => ?_
     clear hK K hH0
     try simp only [pu]
     refine tk 6 81 hH1 ?_
     refine rdy [7, 12, 13] ?_
     refine ad 82 (fun K hK => ?_) ?_
     go_simp; (
      (with_reducible refine (ksj _).mono ?_)
      rintro e wRS ⟨ua, ub, rfl, t2⟩
      obtain ⟨A1, n1, rfl, _, _⟩ := own_form t2.own
      obtain ⟨A2, n2, rfl, _, _⟩ := own_form t2.tail.own
      have yRS := yR.join t2
      have sfRS := hS _ (yRS.tail.tail.tail.blk)
      have qRSG0 := (yRS.alloc 32 #[.string ⟨#[]⟩, .int .i64 0, .string ⟨#[]⟩, .int .i64 0, .slice none 0 0, .slice none 0 0, .slice none 0 0])
      have sfRSG := hS _ (qRSG0.tail.tail.tail.tail.blk)
      clear qRSG0
      have qRSGJ0 := ((yRS.alloc 32 #[.string ⟨#[]⟩, .int .i64 0, .string ⟨#[]⟩, .int .i64 0, .slice none 0 0, .slice none 0 0, .slice none 0 0]).alloc 23 #[.string ⟨#[]⟩, .int .i64 0, .int .i64 0])
      have sfRSGJ := hS _ (qRSGJ0.tail.tail.tail.tail.tail.blk)
      clear qRSGJ0
      have qRSGJ1 := ((yRS.alloc 32 #[.string ⟨#[108, 111, 103]⟩, .int .i64 (s : Int), .string ⟨(R s).toArray⟩, .int .i64 (j : Int), .slice A1 (cA j s).length n1, .slice A2 (tA j).length n2, .slice none 0 0]).alloc 23 #[.string ⟨#[]⟩, .int .i64 0, .int .i64 0])
      have sfRSGJ1 := hS _ (qRSGJ1.tail.tail.tail.tail.tail.blk)
      clear qRSGJ1
      have qRSGJ2 := ((yRS.alloc 32 #[.string ⟨#[108, 111, 103]⟩, .int .i64 (s : Int), .string ⟨(R s).toArray⟩, .int .i64 (j : Int), .slice A1 (cA j s).length n1, .slice A2 (tA j).length n2, .slice none 0 0]).alloc 23 #[.string ⟨SR.toArray⟩, .int .i64 2, .int .i64 ((j : Int) + 1)])
      have sfRSGJ2 := hS _ (qRSGJ2.tail.tail.tail.tail.tail.blk)
      clear qRSGJ2
      have qRSJ0 := (yRS.alloc 23 #[.string ⟨#[]⟩, .int .i64 0, .int .i64 0])
      have sfRSJ := hS _ (qRSJ0.tail.tail.tail.tail.blk)
      clear qRSJ0
      have qRSJG0 := ((yRS.alloc 23 #[.string ⟨#[]⟩, .int .i64 0, .int .i64 0]).alloc 32 #[.string ⟨#[]⟩, .int .i64 0, .string ⟨#[]⟩, .int .i64 0, .slice none 0 0, .slice none 0 0, .slice none 0 0])
      have sfRSJG := hS _ (qRSJG0.tail.tail.tail.tail.tail.blk)
      clear qRSJG0
      have qRSJG1 := ((yRS.alloc 23 #[.string ⟨#[]⟩, .int .i64 0, .int .i64 0]).alloc 32 #[.string ⟨#[108, 111, 103]⟩, .int .i64 (s : Int), .string ⟨(R s).toArray⟩, .int .i64 (j : Int), .slice A1 (cA j s).length n1, .slice A2 (tA j).length n2, .slice none 0 0])
      have sfRSJG1 := hS _ (qRSJG1.tail.tail.tail.tail.tail.blk)
      clear qRSJG1
      have qRSJG2 := ((yRS.alloc 23 #[.string ⟨SR.toArray⟩, .int .i64 2, .int .i64 ((j : Int) + 1)]).alloc 32 #[.string ⟨#[108, 111, 103]⟩, .int .i64 (s : Int), .string ⟨(R s).toArray⟩, .int .i64 (j : Int), .slice A1 (cA j s).length n1, .slice A2 (tA j).length n2, .slice none 0 0])
      have sfRSJG2 := hS _ (qRSJG2.tail.tail.tail.tail.tail.blk)
      clear qRSJG2); go_wp2_with fail
     refine hK.out _ _ (by with_reducible exact sfRS) fun hH2 => ?_
     clear hK K hH1
     try simp only [pu]
     refine tk 8 74 hH2 ?_
     refine tk 9 83 hH2 ?_
     refine tk 10 84 hH2 ?_
     refine tk 11 85 hH2 ?_
     refine rdy [12, 13] ?_
     refine ad 16 (fun K hK => ?_) ?_
     go_simp
     refine hK.out _ _ (by with_reducible exact sfRSG) fun hH3 => ?_
     clear hK K hH2
     try simp only [pu]
     refine rdy [13] ?_
     refine an 17 fun K hK => ?_
     go_simp
     refine hK.out _ _ (by with_reducible exact sfRSGJ) fun hH4 => ?_
     clear hK K hH3
     try simp only [pu]
     refine rdy [14] ?_
     refine az fun K hK => ?_
     go_simp
     refine hK.out _ _ (by with_reducible exact sfRSGJ1) fun hH5 => ?_
     clear hK K hH4
     try simp only [pu]
     refine rdy [15] ?_
     refine az fun K hK => ?_
     go_simp
     refine hK.out _ _ (by with_reducible exact sfRSGJ2) fun hH6 => ?_
     clear hK K hH5
     try simp only [pu]
     refine tk 16 18 hH6 ?_
     refine dn ?_ _
     rotate_left 1
     refine an 17 fun K hK => ?_
     go_simp
     refine hK.out _ _ (by with_reducible exact sfRSJ) fun hH7 => ?_
     clear hK K hH2
     try simp only [pu]
     refine rdy [12] ?_
     refine an 16 fun K hK => ?_
     go_simp
     refine hK.out _ _ (by with_reducible exact sfRSJG) fun hH8 => ?_
     clear hK K hH7
     try simp only [pu]
     refine rdy [14] ?_
     refine az fun K hK => ?_
     go_simp
     refine hK.out _ _ (by with_reducible exact sfRSJG1) fun hH9 => ?_
     clear hK K hH8
     try simp only [pu]
     refine rdy [15] ?_
     refine az fun K hK => ?_
     go_simp
     refine hK.out _ _ (by with_reducible exact sfRSJG2) fun hH10 => ?_
     clear hK K hH9
     try simp only [pu]
     refine tk 16 18 hH10 ?_
     refine dn ?_ _
     rotate_left 1
     refine ad 16 (fun K hK => ?_) ?_
     go_simp
     refine hK.out _ _ (by with_reducible exact sfRG) fun hH11 => ?_
     clear hK K hH1
     try simp only [pu]
     refine rdy [7, 13] ?_
     refine ad 82 (fun K hK => ?_) ?_
     go_simp; (
      (with_reducible refine (ksj _).mono ?_)
      rintro e wRGS ⟨ua, ub, rfl, t2⟩
      obtain ⟨A1, n1, rfl, _, _⟩ := own_form t2.own
      obtain ⟨A2, n2, rfl, _, _⟩ := own_form t2.tail.own
      have yRGS := (yR.alloc 32 #[.string ⟨#[]⟩, .int .i64 0, .string ⟨#[]⟩, .int .i64 0, .slice none 0 0, .slice none 0 0, .slice none 0 0]).join t2
      have ltG := (yRGS.tail.tail).blk.lt
      have neG : ¬ (wRGS.heap.size = wR.heap.size) := Nat.ne_of_gt ltG
      have sfRGS := hS _ (yRGS.tail.tail.tail.tail.blk)
      have qRGSJ0 := (yRGS.alloc 23 #[.string ⟨#[]⟩, .int .i64 0, .int .i64 0])
      have sfRGSJ := hS _ (qRGSJ0.tail.tail.tail.tail.tail.blk)
      clear qRGSJ0
      have qRGSJ1 := (((((((((yRGS.pk [2, 0, 1, 3, 4, 5, 6]).set_ 0 (.string ⟨#[108, 111, 103]⟩)).set_ 1 (.int .i64 (s : Int))).set_ 2 (.string ⟨(R s).toArray⟩)).set_ 3 (.int .i64 (j : Int))).set_ 4 (.slice A1 (cA j s).length n1)).set_ 5 (.slice A2 (tA j).length n2)).set_ 6 (.slice none 0 0)).alloc 23 #[.string ⟨#[]⟩, .int .i64 0, .int .i64 0])
      have sfRGSJ1 := hS _ (qRGSJ1.tail.tail.tail.tail.tail.blk)
      clear qRGSJ1
      have qRGSJ2 := (((((((((yRGS.pk [2, 0, 1, 3, 4, 5, 6]).set_ 0 (.string ⟨#[108, 111, 103]⟩)).set_ 1 (.int .i64 (s : Int))).set_ 2 (.string ⟨(R s).toArray⟩)).set_ 3 (.int .i64 (j : Int))).set_ 4 (.slice A1 (cA j s).length n1)).set_ 5 (.slice A2 (tA j).length n2)).set_ 6 (.slice none 0 0)).alloc 23 #[.string ⟨SR.toArray⟩, .int .i64 2, .int .i64 ((j : Int) + 1)])
      have sfRGSJ2 := hS _ (qRGSJ2.tail.tail.tail.tail.tail.blk)
      clear qRGSJ2
      obtain ⟨_, _, _, _, _, _, _, _, _, _, _, _, _, _⟩ := bk7 yRGS.tail.tail.blk); go_wp2_with fail
     refine hK.out _ _ (by with_reducible exact sfRGS) fun hH12 => ?_
     clear hK K hH11
     try simp only [pu]
     refine tk 8 74 hH12 ?_
     refine tk 9 83 hH12 ?_
     refine tk 10 84 hH12 ?_
     refine tk 11 85 hH12 ?_
     refine rdy [13] ?_
     refine an 17 fun K hK => ?_
     go_simp
     refine hK.out _ _ (by with_reducible exact sfRGSJ) fun hH13 => ?_
     clear hK K hH12
     try simp only [pu]
     refine rdy [14] ?_
     refine az fun K hK => ?_
     go_simp
     refine hK.out _ _ (by with_reducible exact sfRGSJ1) fun hH14 => ?_
     clear hK K hH13
     try simp only [pu]
     refine rdy [15] ?_
     refine az fun K hK => ?_
     go_simp
     refine hK.out _ _ (by with_reducible exact sfRGSJ2) fun hH15 => ?_
     clear hK K hH14
     try simp only [pu]
     refine tk 16 18 hH15 ?_
     refine dn ?_ _
     rotate_left 1
     refine an 17 fun K hK => ?_
     go_simp
     refine hK.out _ _ (by with_reducible exact sfRGJ) fun hH16 => ?_
     clear hK K hH11
     try simp only [pu]
     refine rdy [7] ?_
     refine an 82 fun K hK => ?_
     go_simp; (
      (with_reducible refine (ksj _).mono ?_)
      rintro e wRGJS ⟨ua, ub, rfl, t2⟩
      obtain ⟨A1, n1, rfl, _, _⟩ := own_form t2.own
      obtain ⟨A2, n2, rfl, _, _⟩ := own_form t2.tail.own
      have yRGJS := ((yR.alloc 32 #[.string ⟨#[]⟩, .int .i64 0, .string ⟨#[]⟩, .int .i64 0, .slice none 0 0, .slice none 0 0, .slice none 0 0]).alloc 23 #[.string ⟨#[]⟩, .int .i64 0, .int .i64 0]).join t2
      try simp only [World.size_alloc] at yRGJS
      have ltG := (yRGJS.tail.tail.tail).blk.lt
      have neG : ¬ (wRGJS.heap.size = wR.heap.size) := Nat.ne_of_gt ltG
      have ltJ := (yRGJS.tail.tail).blk.lt
      have neJ : ¬ (wRGJS.heap.size = wR.heap.size + 1) := Nat.ne_of_gt ltJ
      have ltGJ : wR.heap.size < wR.heap.size + 1 := by first | exact ((yR.alloc 32 #[.string ⟨#[]⟩, .int .i64 0, .string ⟨#[]⟩, .int .i64 0, .slice none 0 0, .slice none 0 0, .slice none 0 0])).blk.lt | (have := ((yR.alloc 32 #[.string ⟨#[]⟩, .int .i64 0, .string ⟨#[]⟩, .int .i64 0, .slice none 0 0, .slice none 0 0, .slice none 0 0])).blk.lt; simp only [World.size_alloc] at this; exact this) | (have := ((yR.alloc 32 #[.string ⟨#[]⟩, .int .i64 0, .string ⟨#[]⟩, .int .i64 0, .slice none 0 0, .slice none 0 0, .slice none 0 0])).blk.lt; simp only [World.size_drew, World.size_alloc] at this; exact this)
      have neGJ : ¬ (wR.heap.size = wR.heap.size + 1) := Nat.ne_of_lt ltGJ
      have neJG : ¬ (wR.heap.size + 1 = wR.heap.size) := Nat.ne_of_gt ltGJ
      have sfRGJS := hS _ (yRGJS.tail.tail.tail.tail.tail.blk)
      have qRGJS1 := ((((((((yRGJS.pk [3, 0, 1, 2, 4, 5, 6, 7]).set_ 0 (.string ⟨#[108, 111, 103]⟩)).set_ 1 (.int .i64 (s : Int))).set_ 2 (.string ⟨(R s).toArray⟩)).set_ 3 (.int .i64 (j : Int))).set_ 4 (.slice A1 (cA j s).length n1)).set_ 5 (.slice A2 (tA j).length n2)).set_ 6 (.slice none 0 0))
      have sfRGJS1 := hS _ (qRGJS1.tail.tail.tail.tail.tail.blk)
      clear qRGJS1
      have qRGJS2 := ((((((((((((yRGJS.pk [3, 0, 1, 2, 4, 5, 6, 7]).set_ 0 (.string ⟨#[108, 111, 103]⟩)).set_ 1 (.int .i64 (s : Int))).set_ 2 (.string ⟨(R s).toArray⟩)).set_ 3 (.int .i64 (j : Int))).set_ 4 (.slice A1 (cA j s).length n1)).set_ 5 (.slice A2 (tA j).length n2)).set_ 6 (.slice none 0 0)).pk [3, 0, 1, 2, 4, 5, 6, 7]).set_ 0 (.string ⟨SR.toArray⟩)).set_ 1 (.int .i64 2)).set_ 2 (.int .i64 ((j : Int) + 1)))
      have sfRGJS2 := hS _ (qRGJS2.tail.tail.tail.tail.tail.blk)
      clear qRGJS2
      obtain ⟨_, _, _, _, _, _, _, _, _, _, _, _, _, _⟩ := bk7 yRGJS.tail.tail.tail.blk
      obtain ⟨_, _, _, _, _, _⟩ := bk3 yRGJS.tail.tail.blk); go_wp2_with fail
     refine hK.out _ _ (by with_reducible exact sfRGJS) fun hH17 => ?_
     clear hK K hH16
     try simp only [pu]
     refine tk 8 74 hH17 ?_
     refine tk 9 83 hH17 ?_
     refine tk 10 84 hH17 ?_
     refine tk 11 85 hH17 ?_
     refine rdy [14] ?_
     refine az fun K hK => ?_
     go_simp
     refine hK.out _ _ (by with_reducible exact sfRGJS1) fun hH18 => ?_
     clear hK K hH17
     try simp only [pu]
     refine rdy [15] ?_
     refine az fun K hK => ?_
     go_simp
     refine hK.out _ _ (by with_reducible exact sfRGJS2) fun hH19 => ?_
     clear hK K hH18
     try simp only [pu]
     refine tk 16 18 hH19 ?_
     refine dn ?_ _
     rotate_left 1
     refine an 17 fun K hK => ?_
     go_simp
     refine hK.out _ _ (by with_reducible exact sfRJ) fun hH20 => ?_
     clear hK K hH1
     try simp only [pu]
     refine rdy [7, 12] ?_
     refine ad 82 (fun K hK => ?_) ?_
     go_simp; (
      (with_reducible refine (ksj _).mono ?_)
      rintro e wRJS ⟨ua, ub, rfl, t2⟩
      obtain ⟨A1, n1, rfl, _, _⟩ := own_form t2.own
      obtain ⟨A2, n2, rfl, _, _⟩ := own_form t2.tail.own
      have yRJS := (yR.alloc 23 #[.string ⟨#[]⟩, .int .i64 0, .int .i64 0]).join t2
      have ltJ := (yRJS.tail.tail).blk.lt
      have neJ : ¬ (wRJS.heap.size = wR.heap.size) := Nat.ne_of_gt ltJ
      have sfRJS := hS _ (yRJS.tail.tail.tail.tail.blk)
      have qRJSG0 := (yRJS.alloc 32 #[.string ⟨#[]⟩, .int .i64 0, .string ⟨#[]⟩, .int .i64 0, .slice none 0 0, .slice none 0 0, .slice none 0 0])
      have sfRJSG := hS _ (qRJSG0.tail.tail.tail.tail.tail.blk)
      clear qRJSG0
      have qRJSG1 := (yRJS.alloc 32 #[.string ⟨#[108, 111, 103]⟩, .int .i64 (s : Int), .string ⟨(R s).toArray⟩, .int .i64 (j : Int), .slice A1 (cA j s).length n1, .slice A2 (tA j).length n2, .slice none 0 0])
      have sfRJSG1 := hS _ (qRJSG1.tail.tail.tail.tail.tail.blk)
      clear qRJSG1
      have qRJSG2 := (((((yRJS.pk [2, 0, 1, 3, 4, 5, 6]).set_ 0 (.string ⟨SR.toArray⟩)).set_ 1 (.int .i64 2)).set_ 2 (.int .i64 ((j : Int) + 1))).alloc 32 #[.string ⟨#[108, 111, 103]⟩, .int .i64 (s : Int), .string ⟨(R s).toArray⟩, .int .i64 (j : Int), .slice A1 (cA j s).length n1, .slice A2 (tA j).length n2, .slice none 0 0])
      have sfRJSG2 := hS _ (qRJSG2.tail.tail.tail.tail.tail.blk)
      clear qRJSG2
      obtain ⟨_, _, _, _, _, _⟩ := bk3 yRJS.tail.tail.blk); go_wp2_with fail
     refine hK.out _ _ (by with_reducible exact sfRJS) fun hH21 => ?_
     clear hK K hH20
     try simp only [pu]
     refine tk 8 74 hH21 ?_
     refine tk 9 83 hH21 ?_
     refine tk 10 84 hH21 ?_
     refine tk 11 85 hH21 ?_
     refine rdy [12] ?_
     refine an 16 fun K hK => ?_
     go_simp
     refine hK.out _ _ (by with_reducible exact sfRJSG) fun hH22 => ?_
     clear hK K hH21
     try simp only [pu]
     refine rdy [14] ?_
     refine az fun K hK => ?_
     go_simp
     refine hK.out _ _ (by with_reducible exact sfRJSG1) fun hH23 => ?_
     clear hK K hH22
     try simp only [pu]
     refine rdy [15] ?_
     refine az fun K hK => ?_
     go_simp
     refine hK.out _ _ (by with_reducible exact sfRJSG2) fun hH24 => ?_
     clear hK K hH23
     try simp only [pu]
     refine tk 16 18 hH24 ?_
     refine dn ?_ _
     rotate_left 1
     refine an 16 fun K hK => ?_
     go_simp
     refine hK.out _ _ (by with_reducible exact sfRJG) fun hH25 => ?_
     clear hK K hH20
     try simp only [pu]
     refine rdy [7] ?_
     refine an 82 fun K hK => ?_
     go_simp; (
      (with_reducible refine (ksj _).mono ?_)
      rintro e wRJGS ⟨ua, ub, rfl, t2⟩
      obtain ⟨A1, n1, rfl, _, _⟩ := own_form t2.own
      obtain ⟨A2, n2, rfl, _, _⟩ := own_form t2.tail.own
      have yRJGS := ((yR.alloc 23 #[.string ⟨#[]⟩, .int .i64 0, .int .i64 0]).alloc 32 #[.string ⟨#[]⟩, .int .i64 0, .string ⟨#[]⟩, .int .i64 0, .slice none 0 0, .slice none 0 0, .slice none 0 0]).join t2
      try simp only [World.size_alloc] at yRJGS
      have ltG := (yRJGS.tail.tail).blk.lt
      have neG : ¬ (wRJGS.heap.size = wR.heap.size + 1) := Nat.ne_of_gt ltG
      have ltJ := (yRJGS.tail.tail.tail).blk.lt
      have neJ : ¬ (wRJGS.heap.size = wR.heap.size) := Nat.ne_of_gt ltJ
      have ltJG : wR.heap.size < wR.heap.size + 1 := by first | exact ((yR.alloc 23 #[.string ⟨#[]⟩, .int .i64 0, .int .i64 0])).blk.lt | (have := ((yR.alloc 23 #[.string ⟨#[]⟩, .int .i64 0, .int .i64 0])).blk.lt; simp only [World.size_alloc] at this; exact this) | (have := ((yR.alloc 23 #[.string ⟨#[]⟩, .int .i64 0, .int .i64 0])).blk.lt; simp only [World.size_drew, World.size_alloc] at this; exact this)
      have neJG : ¬ (wR.heap.size = wR.heap.size + 1) := Nat.ne_of_lt ltJG
      have neGJ : ¬ (wR.heap.size + 1 = wR.heap.size) := Nat.ne_of_gt ltJG
      have sfRJGS := hS _ (yRJGS.tail.tail.tail.tail.tail.blk)
      have qRJGS1 := ((((((((yRJGS.pk [2, 0, 1, 3, 4, 5, 6, 7]).set_ 0 (.string ⟨#[108, 111, 103]⟩)).set_ 1 (.int .i64 (s : Int))).set_ 2 (.string ⟨(R s).toArray⟩)).set_ 3 (.int .i64 (j : Int))).set_ 4 (.slice A1 (cA j s).length n1)).set_ 5 (.slice A2 (tA j).length n2)).set_ 6 (.slice none 0 0))
      have sfRJGS1 := hS _ (qRJGS1.tail.tail.tail.tail.tail.blk)
      clear qRJGS1
      have qRJGS2 := ((((((((((((yRJGS.pk [2, 0, 1, 3, 4, 5, 6, 7]).set_ 0 (.string ⟨#[108, 111, 103]⟩)).set_ 1 (.int .i64 (s : Int))).set_ 2 (.string ⟨(R s).toArray⟩)).set_ 3 (.int .i64 (j : Int))).set_ 4 (.slice A1 (cA j s).length n1)).set_ 5 (.slice A2 (tA j).length n2)).set_ 6 (.slice none 0 0)).pk [3, 0, 1, 2, 4, 5, 6, 7]).set_ 0 (.string ⟨SR.toArray⟩)).set_ 1 (.int .i64 2)).set_ 2 (.int .i64 ((j : Int) + 1)))
      have sfRJGS2 := hS _ (qRJGS2.tail.tail.tail.tail.tail.blk)
      clear qRJGS2
      obtain ⟨_, _, _, _, _, _, _, _, _, _, _, _, _, _⟩ := bk7 yRJGS.tail.tail.blk
      obtain ⟨_, _, _, _, _, _⟩ := bk3 yRJGS.tail.tail.tail.blk); go_wp2_with fail
     refine hK.out _ _ (by with_reducible exact sfRJGS) fun hH26 => ?_
     clear hK K hH25
     try simp only [pu]
     refine tk 8 74 hH26 ?_
     refine tk 9 83 hH26 ?_
     refine tk 10 84 hH26 ?_
     refine tk 11 85 hH26 ?_
     refine rdy [14] ?_
     refine az fun K hK => ?_
     go_simp
     refine hK.out _ _ (by with_reducible exact sfRJGS1) fun hH27 => ?_
     clear hK K hH26
     try simp only [pu]
     refine rdy [15] ?_
     refine az fun K hK => ?_
     go_simp
     refine hK.out _ _ (by with_reducible exact sfRJGS2) fun hH28 => ?_
     clear hK K hH27
     try simp only [pu]
     refine tk 16 18 hH28 ?_
     refine dn ?_ _
     rotate_left 1
     refine ad 16 (fun K hK => ?_) ?_
     go_simp
     refine hK.out _ _ (by with_reducible exact sfG) fun hH29 => ?_
     clear hK K hH0
     try simp only [pu]
     refine rdy [5, 13] ?_
     refine ad 80 (fun K hK => ?_) ?_
     go_simp; (
      (with_reducible refine (kRs _ _ _ (Rd.of_own ((h.alloc 32 #[.string ⟨#[]⟩, .int .i64 0, .string ⟨#[]⟩, .int .i64 0, .slice none 0 0, .slice none 0 0, .slice none 0 0]).drew.tail.tail.tail.tail.own)) hc1 hm1).mono ?_)
      rintro e wGR ⟨rfl, bR⟩
      have yGR := (h.alloc 32 #[.string ⟨#[]⟩, .int .i64 0, .string ⟨#[]⟩, .int .i64 0, .slice none 0 0, .slice none 0 0, .slice none 0 0]).drew.under bR
      have sfGR := hS _ (yGR.tail.tail.blk)
      have qGRJ0 := (yGR.alloc 23 #[.string ⟨#[]⟩, .int .i64 0, .int .i64 0])
      have sfGRJ := hS _ (qGRJ0.tail.tail.tail.blk)
      clear qGRJ0); go_wp2_with fail
     refine hK.out _ _ (by with_reducible exact sfGR) fun hH30 => ?_
     clear hK K hH29
     try simp only [pu]
     refine tk 6 81 hH30 ?_
     refine rdy [7, 13] ?_
     refine ad 82 (fun K hK => ?_) ?_
     go_simp; (
      (with_reducible refine (ksj _).mono ?_)
      rintro e wGRS ⟨ua, ub, rfl, t2⟩
      obtain ⟨A1, n1, rfl, _, _⟩ := own_form t2.own
      obtain ⟨A2, n2, rfl, _, _⟩ := own_form t2.tail.own
      have yGRS := yGR.join t2
      have ltG := (yGRS.tail.tail).blk.lt
      have neG : ¬ (wGRS.heap.size = wz.heap.size) := Nat.ne_of_gt ltG
      have sfGRS := hS _ (yGRS.tail.tail.tail.tail.blk)
      have qGRSJ0 := (yGRS.alloc 23 #[.string ⟨#[]⟩, .int .i64 0, .int .i64 0])
      have sfGRSJ := hS _ (qGRSJ0.tail.tail.tail.tail.tail.blk)
      clear qGRSJ0
      have qGRSJ1 := (((((((((yGRS.pk [2, 0, 1, 3, 4, 5, 6]).set_ 0 (.string ⟨#[108, 111, 103]⟩)).set_ 1 (.int .i64 (s : Int))).set_ 2 (.string ⟨(R s).toArray⟩)).set_ 3 (.int .i64 (j : Int))).set_ 4 (.slice A1 (cA j s).length n1)).set_ 5 (.slice A2 (tA j).length n2)).set_ 6 (.slice none 0 0)).alloc 23 #[.string ⟨#[]⟩, .int .i64 0, .int .i64 0])
      have sfGRSJ1 := hS _ (qGRSJ1.tail.tail.tail.tail.tail.blk)
      clear qGRSJ1
      have qGRSJ2 := (((((((((yGRS.pk [2, 0, 1, 3, 4, 5, 6]).set_ 0 (.string ⟨#[108, 111, 103]⟩)).set_ 1 (.int .i64 (s : Int))).set_ 2 (.string ⟨(R s).toArray⟩)).set_ 3 (.int .i64 (j : Int))).set_ 4 (.slice A1 (cA j s).length n1)).set_ 5 (.slice A2 (tA j).length n2)).set_ 6 (.slice none 0 0)).alloc 23 #[.string ⟨SR.toArray⟩, .int .i64 2, .int .i64 ((j : Int) + 1)])
      have sfGRSJ2 := hS _ (qGRSJ2.tail.tail.tail.tail.tail.blk)
      clear qGRSJ2
      obtain ⟨_, _, _, _, _, _, _, _, _, _, _, _, _, _⟩ := bk7 yGRS.tail.tail.blk); go_wp2_with fail
     refine hK.out _ _ (by with_reducible exact sfGRS) fun hH31 => ?_
     clear hK K hH30
     try simp only [pu]
     refine tk 8 74 hH31 ?_
     refine tk 9 83 hH31 ?_
     refine tk 10 84 hH31 ?_
     refine tk 11 85 hH31 ?_
     refine rdy [13] ?_
     refine an 17 fun K hK => ?_
     go_simp
     refine hK.out _ _ (by with_reducible exact sfGRSJ) fun hH32 => ?_
     clear hK K hH31
     try simp only [pu]
     refine rdy [14] ?_
     refine az fun K hK => ?_
     go_simp
     refine hK.out _ _ (by with_reducible exact sfGRSJ1) fun hH33 => ?_
     clear hK K hH32
     try simp only [pu]
     refine rdy [15] ?_
     refine az fun K hK => ?_
     go_simp
     refine hK.out _ _ (by with_reducible exact sfGRSJ2) fun hH34 => ?_
     clear hK K hH33
     try simp only [pu]
     refine tk 16 18 hH34 ?_
     refine dn ?_ _
     rotate_left 1
     refine an 17 fun K hK => ?_
     go_simp
     refine hK.out _ _ (by with_reducible exact sfGRJ) fun hH35 => ?_
     clear hK K hH30
     try simp only [pu]
     refine rdy [7] ?_
     refine an 82 fun K hK => ?_
     go_simp; (
      (with_reducible refine (ksj _).mono ?_)
      rintro e wGRJS ⟨ua, ub, rfl, t2⟩
      obtain ⟨A1, n1, rfl, _, _⟩ := own_form t2.own
      obtain ⟨A2, n2, rfl, _, _⟩ := own_form t2.tail.own
      have yGRJS := (yGR.alloc 23 #[.string ⟨#[]⟩, .int .i64 0, .int .i64 0]).join t2
      try simp only [World.size_alloc] at yGRJS
      have ltG := (yGRJS.tail.tail.tail).blk.lt
      have neG : ¬ (wGRJS.heap.size = wz.heap.size) := Nat.ne_of_gt ltG
      have ltJ := (yGRJS.tail.tail).blk.lt
      have neJ : ¬ (wGRJS.heap.size = wGR.heap.size) := Nat.ne_of_gt ltJ
      have ltGJ : wz.heap.size < wGR.heap.size := by first | exact (yGR).blk.lt | (have := (yGR).blk.lt; simp only [World.size_alloc] at this; exact this) | (have := (yGR).blk.lt; simp only [World.size_drew, World.size_alloc] at this; exact this)
      have neGJ : ¬ (wz.heap.size = wGR.heap.size) := Nat.ne_of_lt ltGJ
      have neJG : ¬ (wGR.heap.size = wz.heap.size) := Nat.ne_of_gt ltGJ
      have sfGRJS := hS _ (yGRJS.tail.tail.tail.tail.tail.blk)
      have qGRJS1 := ((((((((yGRJS.pk [3, 0, 1, 2, 4, 5, 6, 7]).set_ 0 (.string ⟨#[108, 111, 103]⟩)).set_ 1 (.int .i64 (s : Int))).set_ 2 (.string ⟨(R s).toArray⟩)).set_ 3 (.int .i64 (j : Int))).set_ 4 (.slice A1 (cA j s).length n1)).set_ 5 (.slice A2 (tA j).length n2)).set_ 6 (.slice none 0 0))
      have sfGRJS1 := hS _ (qGRJS1.tail.tail.tail.tail.tail.blk)
      clear qGRJS1
      have qGRJS2 := ((((((((((((yGRJS.pk [3, 0, 1, 2, 4, 5, 6, 7]).set_ 0 (.string ⟨#[108, 111, 103]⟩)).set_ 1 (.int .i64 (s : Int))).set_ 2 (.string ⟨(R s).toArray⟩)).set_ 3 (.int .i64 (j : Int))).set_ 4 (.slice A1 (cA j s).length n1)).set_ 5 (.slice A2 (tA j).length n2)).set_ 6 (.slice none 0 0)).pk [3, 0, 1, 2, 4, 5, 6, 7]).set_ 0 (.string ⟨SR.toArray⟩)).set_ 1 (.int .i64 2)).set_ 2 (.int .i64 ((j : Int) + 1)))
      have sfGRJS2 := hS _ (qGRJS2.tail.tail.tail.tail.tail.blk)
      clear qGRJS2
      obtain ⟨_, _, _, _, _, _, _, _, _, _, _, _, _, _⟩ := bk7 yGRJS.tail.tail.tail.blk
      obtain ⟨_, _, _, _, _, _⟩ := bk3 yGRJS.tail.tail.blk); go_wp2_with fail
     refine hK.out _ _ (by with_reducible exact sfGRJS) fun hH36 => ?_
     clear hK K hH35
     try simp only [pu]
     refine tk 8 74 hH36 ?_
     refine tk 9 83 hH36 ?_
     refine tk 10 84 hH36 ?_
     refine tk 11 85 hH36 ?_
     refine rdy [14] ?_
     refine az fun K hK => ?_
     go_simp
     refine hK.out _ _ (by with_reducible exact sfGRJS1) fun hH37 => ?_
     clear hK K hH36
     try simp only [pu]
     refine rdy [15] ?_
     refine az fun K hK => ?_
     go_simp
     refine hK.out _ _ (by with_reducible exact sfGRJS2) fun hH38 => ?_
     clear hK K hH37
     try simp only [pu]
     refine tk 16 18 hH38 ?_
     refine dn ?_ _
     rotate_left 1
     refine an 17 fun K hK => ?_
     go_simp
     refine hK.out _ _ (by with_reducible exact sfGJ) fun hH39 => ?_
     clear hK K hH29
     try simp only [pu]
     refine rdy [5] ?_
     refine an 80 fun K hK => ?_
     go_simp; (
      (with_reducible refine (kRs _ _ _ (Rd.of_own (((h.alloc 32 #[.string ⟨#[]⟩, .int .i64 0, .string ⟨#[]⟩, .int .i64 0, .slice none 0 0, .slice none 0 0, .slice none 0 0]).alloc 23 #[.string ⟨#[]⟩, .int .i64 0, .int .i64 0]).drew.tail.tail.tail.tail.tail.own)) hc1 hm1).mono ?_)
      rintro e wGJR ⟨rfl, bR⟩
      have yGJR := ((h.alloc 32 #[.string ⟨#[]⟩, .int .i64 0, .string ⟨#[]⟩, .int .i64 0, .slice none 0 0, .slice none 0 0, .slice none 0 0]).alloc 23 #[.string ⟨#[]⟩, .int .i64 0, .int .i64 0]).drew.under bR
      try simp only [World.size_alloc] at yGJR
      have sfGJR := hS _ (yGJR.tail.tail.tail.blk)); go_wp2_with fail
     refine hK.out _ _ (by with_reducible exact sfGJR) fun hH40 => ?_
     clear hK K hH39
     try simp only [pu]
     refine tk 6 81 hH40 ?_
     refine rdy [7] ?_
     refine an 82 fun K hK => ?_
     go_simp; (
      (with_reducible refine (ksj _).mono ?_)
      rintro e wGJRS ⟨ua, ub, rfl, t2⟩
      obtain ⟨A1, n1, rfl, _, _⟩ := own_form t2.own
      obtain ⟨A2, n2, rfl, _, _⟩ := own_form t2.tail.own
      have yGJRS := yGJR.join t2
      try simp only [World.size_alloc] at yGJRS
      have ltG := (yGJRS.tail.tail.tail).blk.lt
      have neG : ¬ (wGJRS.heap.size = wz.heap.size) := Nat.ne_of_gt ltG
      have ltJ := (yGJRS.tail.tail).blk.lt
      have neJ : ¬ (wGJRS.heap.size = wz.heap.size + 1) := Nat.ne_of_gt ltJ
      have ltGJ : wz.heap.size < wz.heap.size + 1 := by first | exact ((h.alloc 32 #[.string ⟨#[]⟩, .int .i64 0, .string ⟨#[]⟩, .int .i64 0, .slice none 0 0, .slice none 0 0, .slice none 0 0]).drew).blk.lt | (have := ((h.alloc 32 #[.string ⟨#[]⟩, .int .i64 0, .string ⟨#[]⟩, .int .i64 0, .slice none 0 0, .slice none 0 0, .slice none 0 0]).drew).blk.lt; simp only [World.size_alloc] at this; exact this) | (have := ((h.alloc 32 #[.string ⟨#[]⟩, .int .i64 0, .string ⟨#[]⟩, .int .i64 0, .slice none 0 0, .slice none 0 0, .slice none 0 0]).drew).blk.lt; simp only [World.size_drew, World.size_alloc] at this; exact this)
      have neGJ : ¬ (wz.heap.size = wz.heap.size + 1) := Nat.ne_of_lt ltGJ
      have neJG : ¬ (wz.heap.size + 1 = wz.heap.size) := Nat.ne_of_gt ltGJ
      have sfGJRS := hS _ (yGJRS.tail.tail.tail.tail.tail.blk)
      have qGJRS1 := ((((((((yGJRS.pk [3, 0, 1, 2, 4, 5, 6, 7]).set_ 0 (.string ⟨#[108, 111, 103]⟩)).set_ 1 (.int .i64 (s : Int))).set_ 2 (.string ⟨(R s).toArray⟩)).set_ 3 (.int .i64 (j : Int))).set_ 4 (.slice A1 (cA j s).length n1)).set_ 5 (.slice A2 (tA j).length n2)).set_ 6 (.slice none 0 0))
      have sfGJRS1 := hS _ (qGJRS1.tail.tail.tail.tail.tail.blk)
      clear qGJRS1
      have qGJRS2 := ((((((((((((yGJRS.pk [3, 0, 1, 2, 4, 5, 6, 7]).set_ 0 (.string ⟨#[108, 111, 103]⟩)).set_ 1 (.int .i64 (s : Int))).set_ 2 (.string ⟨(R s).toArray⟩)).set_ 3 (.int .i64 (j : Int))).set_ 4 (.slice A1 (cA j s).length n1)).set_ 5 (.slice A2 (tA j).length n2)).set_ 6 (.slice none 0 0)).pk [3, 0, 1, 2, 4, 5, 6, 7]).set_ 0 (.string ⟨SR.toArray⟩)).set_ 1 (.int .i64 2)).set_ 2 (.int .i64 ((j : Int) + 1)))
      have sfGJRS2 := hS _ (qGJRS2.tail.tail.tail.tail.tail.blk)
      clear qGJRS2
      obtain ⟨_, _, _, _, _, _, _, _, _, _, _, _, _, _⟩ := bk7 yGJRS.tail.tail.tail.blk
      obtain ⟨_, _, _, _, _, _⟩ := bk3 yGJRS.tail.tail.blk); go_wp2_with fail
     refine hK.out _ _ (by with_reducible exact sfGJRS) fun hH41 => ?_
     clear hK K hH40
     try simp only [pu]
     refine tk 8 74 hH41 ?_
     refine tk 9 83 hH41 ?_
     refine tk 10 84 hH41 ?_
     refine tk 11 85 hH41 ?_
     refine rdy [14] ?_
     refine az fun K hK => ?_
     go_simp
     refine hK.out _ _ (by with_reducible exact sfGJRS1) fun hH42 => ?_
     clear hK K hH41
     try simp only [pu]
     refine rdy [15] ?_
     refine az fun K hK => ?_
     go_simp
     refine hK.out _ _ (by with_reducible exact sfGJRS2) fun hH43 => ?_
     clear hK K hH42
     try simp only [pu]
     refine tk 16 18 hH43 ?_
     refine dn ?_ _
     rotate_left 1
     refine an 17 fun K hK => ?_
     go_simp
     refine hK.out _ _ (by with_reducible exact sfJ) fun hH44 => ?_
     clear hK K hH0
     try simp only [pu]
     refine rdy [5, 12] ?_
     refine ad 80 (fun K hK => ?_) ?_
     go_simp; (
      (with_reducible refine (kRs _ _ _ (Rd.of_own ((h.alloc 23 #[.string ⟨#[]⟩, .int .i64 0, .int .i64 0]).drew.tail.tail.tail.tail.own)) hc1 hm1).mono ?_)
      rintro e wJR ⟨rfl, bR⟩
      have yJR := (h.alloc 23 #[.string ⟨#[]⟩, .int .i64 0, .int .i64 0]).drew.under bR
      have sfJR := hS _ (yJR.tail.tail.blk)
      have qJRG0 := (yJR.alloc 32 #[.string ⟨#[]⟩, .int .i64 0, .string ⟨#[]⟩, .int .i64 0, .slice none 0 0, .slice none 0 0, .slice none 0 0])
      have sfJRG := hS _ (qJRG0.tail.tail.tail.blk)
      clear qJRG0); go_wp2_with fail
     refine hK.out _ _ (by with_reducible exact sfJR) fun hH45 => ?_
     clear hK K hH44
     try simp only [pu]
     refine tk 6 81 hH45 ?_
     refine rdy [7, 12] ?_
     refine ad 82 (fun K hK => ?_) ?_
     go_simp; (
      (with_reducible refine (ksj _).mono ?_)
      rintro e wJRS ⟨ua, ub, rfl, t2⟩
      obtain ⟨A1, n1, rfl, _, _⟩ := own_form t2.own
      obtain ⟨A2, n2, rfl, _, _⟩ := own_form t2.tail.own
      have yJRS := yJR.join t2
      have ltJ := (yJRS.tail.tail).blk.lt
      have neJ : ¬ (wJRS.heap.size = wz.heap.size) := Nat.ne_of_gt ltJ
      have sfJRS := hS _ (yJRS.tail.tail.tail.tail.blk)
      have qJRSG0 := (yJRS.alloc 32 #[.string ⟨#[]⟩, .int .i64 0, .string ⟨#[]⟩, .int .i64 0, .slice none 0 0, .slice none 0 0, .slice none 0 0])
      have sfJRSG := hS _ (qJRSG0.tail.tail.tail.tail.tail.blk)
      clear qJRSG0
      have qJRSG1 := (yJRS.alloc 32 #[.string ⟨#[108, 111, 103]⟩, .int .i64 (s : Int), .string ⟨(R s).toArray⟩, .int .i64 (j : Int), .slice A1 (cA j s).length n1, .slice A2 (tA j).length n2, .slice none 0 0])
      have sfJRSG1 := hS _ (qJRSG1.tail.tail.tail.tail.tail.blk)
      clear qJRSG1
      have qJRSG2 := (((((yJRS.pk [2, 0, 1, 3, 4, 5, 6]).set_ 0 (.string ⟨SR.toArray⟩)).set_ 1 (.int .i64 2)).set_ 2 (.int .i64 ((j : Int) + 1))).alloc 32 #[.string ⟨#[108, 111, 103]⟩, .int .i64 (s : Int), .string ⟨(R s).toArray⟩, .int .i64 (j : Int), .slice A1 (cA j s).length n1, .slice A2 (tA j).length n2, .slice none 0 0])
      have sfJRSG2 := hS _ (qJRSG2.tail.tail.tail.tail.tail.blk)
      clear qJRSG2
      obtain ⟨_, _, _, _, _, _⟩ := bk3 yJRS.tail.tail.blk); go_wp2_with fail
     refine hK.out _ _ (by with_reducible exact sfJRS) fun hH46 => ?_
     clear hK K hH45
     try simp only [pu]
     refine tk 8 74 hH46 ?_
     refine tk 9 83 hH46 ?_
     refine tk 10 84 hH46 ?_
     refine tk 11 85 hH46 ?_
     refine rdy [12] ?_
     refine an 16 fun K hK => ?_
     go_simp
     refine hK.out _ _ (by with_reducible exact sfJRSG) fun hH47 => ?_
     clear hK K hH46
     try simp only [pu]
     refine rdy [14] ?_
     refine az fun K hK => ?_
     go_simp
     refine hK.out _ _ (by with_reducible exact sfJRSG1) fun hH48 => ?_
     clear hK K hH47
     try simp only [pu]
     refine rdy [15] ?_
     refine az fun K hK => ?_
     go_simp
     refine hK.out _ _ (by with_reducible exact sfJRSG2) fun hH49 => ?_
     clear hK K hH48
     try simp only [pu]
     refine tk 16 18 hH49 ?_
     refine dn ?_ _
     rotate_left 1
     refine an 16 fun K hK => ?_
     go_simp
     refine hK.out _ _ (by with_reducible exact sfJRG) fun hH50 => ?_
     clear hK K hH45
     try simp only [pu]
     refine rdy [7] ?_
     refine an 82 fun K hK => ?_
     go_simp; (
      (with_reducible refine (ksj _).mono ?_)
      rintro e wJRGS ⟨ua, ub, rfl, t2⟩
      obtain ⟨A1, n1, rfl, _, _⟩ := own_form t2.own
      obtain ⟨A2, n2, rfl, _, _⟩ := own_form t2.tail.own
      have yJRGS := (yJR.alloc 32 #[.string ⟨#[]⟩, .int .i64 0, .string ⟨#[]⟩, .int .i64 0, .slice none 0 0, .slice none 0 0, .slice none 0 0]).join t2
      try simp only [World.size_alloc] at yJRGS
      have ltG := (yJRGS.tail.tail).blk.lt
      have neG : ¬ (wJRGS.heap.size = wJR.heap.size) := Nat.ne_of_gt ltG
      have ltJ := (yJRGS.tail.tail.tail).blk.lt
      have neJ : ¬ (wJRGS.heap.size = wz.heap.size) := Nat.ne_of_gt ltJ
      have ltJG : wz.heap.size < wJR.heap.size := by first | exact (yJR).blk.lt | (have := (yJR).blk.lt; simp only [World.size_alloc] at this; exact this) | (have := (yJR).blk.lt; simp only [World.size_drew, World.size_alloc] at this; exact this)
      have neJG : ¬ (wz.heap.size = wJR.heap.size) := Nat.ne_of_lt ltJG
      have neGJ : ¬ (wJR.heap.size = wz.heap.size) := Nat.ne_of_gt ltJG
      have sfJRGS := hS _ (yJRGS.tail.tail.tail.tail.tail.blk)
      have qJRGS1 := ((((((((yJRGS.pk [2, 0, 1, 3, 4, 5, 6, 7]).set_ 0 (.string ⟨#[108, 111, 103]⟩)).set_ 1 (.int .i64 (s : Int))).set_ 2 (.string ⟨(R s).toArray⟩)).set_ 3 (.int .i64 (j : Int))).set_ 4 (.slice A1 (cA j s).length n1)).set_ 5 (.slice A2 (tA j).length n2)).set_ 6 (.slice none 0 0))
      have sfJRGS1 := hS _ (qJRGS1.tail.tail.tail.tail.tail.blk)
      clear qJRGS1
      have qJRGS2 := ((((((((((((yJRGS.pk [2, 0, 1, 3, 4, 5, 6, 7]).set_ 0 (.string ⟨#[108, 111, 103]⟩)).set_ 1 (.int .i64 (s : Int))).set_ 2 (.string ⟨(R s).toArray⟩)).set_ 3 (.int .i64 (j : Int))).set_ 4 (.slice A1 (cA j s).length n1)).set_ 5 (.slice A2 (tA j).length n2)).set_ 6 (.slice none 0 0)).pk [3, 0, 1, 2, 4, 5, 6, 7]).set_ 0 (.string ⟨SR.toArray⟩)).set_ 1 (.int .i64 2)).set_ 2 (.int .i64 ((j : Int) + 1)))
      have sfJRGS2 := hS _ (qJRGS2.tail.tail.tail.tail.tail.blk)
      clear qJRGS2
      obtain ⟨_, _, _, _, _, _, _, _, _, _, _, _, _, _⟩ := bk7 yJRGS.tail.tail.blk
      obtain ⟨_, _, _, _, _, _⟩ := bk3 yJRGS.tail.tail.tail.blk); go_wp2_with fail
     refine hK.out _ _ (by with_reducible exact sfJRGS) fun hH51 => ?_
     clear hK K hH50
     try simp only [pu]
     refine tk 8 74 hH51 ?_
     refine tk 9 83 hH51 ?_
     refine tk 10 84 hH51 ?_
     refine tk 11 85 hH51 ?_
     refine rdy [14] ?_
     refine az fun K hK => ?_
     go_simp
     refine hK.out _ _ (by with_reducible exact sfJRGS1) fun hH52 => ?_
     clear hK K hH51
     try simp only [pu]
     refine rdy [15] ?_
     refine az fun K hK => ?_
     go_simp
     refine hK.out _ _ (by with_reducible exact sfJRGS2) fun hH53 => ?_
     clear hK K hH52
     try simp only [pu]
     refine tk 16 18 hH53 ?_
     refine dn ?_ _
     rotate_left 1
     refine an 16 fun K hK => ?_
     go_simp
     refine hK.out _ _ (by with_reducible exact sfJG) fun hH54 => ?_
     clear hK K hH44
     try simp only [pu]
     refine rdy [5] ?_
     refine an 80 fun K hK => ?_
     go_simp; (
      (with_reducible refine (kRs _ _ _ (Rd.of_own (((h.alloc 23 #[.string ⟨#[]⟩, .int .i64 0, .int .i64 0]).alloc 32 #[.string ⟨#[]⟩, .int .i64 0, .string ⟨#[]⟩, .int .i64 0, .slice none 0 0, .slice none 0 0, .slice none 0 0]).drew.tail.tail.tail.tail.tail.own)) hc1 hm1).mono ?_)
      rintro e wJGR ⟨rfl, bR⟩
      have yJGR := ((h.alloc 23 #[.string ⟨#[]⟩, .int .i64 0, .int .i64 0]).alloc 32 #[.string ⟨#[]⟩, .int .i64 0, .string ⟨#[]⟩, .int .i64 0, .slice none 0 0, .slice none 0 0, .slice none 0 0]).drew.under bR
      try simp only [World.size_alloc] at yJGR
      have sfJGR := hS _ (yJGR.tail.tail.tail.blk)); go_wp2_with fail
     refine hK.out _ _ (by with_reducible exact sfJGR) fun hH55 => ?_
     clear hK K hH54
     try simp only [pu]
     refine tk 6 81 hH55 ?_
     refine rdy [7] ?_
     refine an 82 fun K hK => ?_
     go_simp; (
      (with_reducible refine (ksj _).mono ?_)
      rintro e wJGRS ⟨ua, ub, rfl, t2⟩
      obtain ⟨A1, n1, rfl, _, _⟩ := own_form t2.own
      obtain ⟨A2, n2, rfl, _, _⟩ := own_form t2.tail.own
      have yJGRS := yJGR.join t2
      try simp only [World.size_alloc] at yJGRS
      have ltG := (yJGRS.tail.tail).blk.lt
      have neG : ¬ (wJGRS.heap.size = wz.heap.size + 1) := Nat.ne_of_gt ltG
      have ltJ := (yJGRS.tail.tail.tail).blk.lt
      have neJ : ¬ (wJGRS.heap.size = wz.heap.size) := Nat.ne_of_gt ltJ
      have ltJG : wz.heap.size < wz.heap.size + 1 := by first | exact ((h.alloc 23 #[.string ⟨#[]⟩, .int .i64 0, .int .i64 0]).drew).blk.lt | (have := ((h.alloc 23 #[.string ⟨#[]⟩, .int .i64 0, .int .i64 0]).drew).blk.lt; simp only [World.size_alloc] at this; exact this) | (have := ((h.alloc 23 #[.string ⟨#[]⟩, .int .i64 0, .int .i64 0]).drew).blk.lt; simp only [World.size_drew, World.size_alloc] at this; exact this)
      have neJG : ¬ (wz.heap.size = wz.heap.size + 1) := Nat.ne_of_lt ltJG
      have neGJ : ¬ (wz.heap.size + 1 = wz.heap.size) := Nat.ne_of_gt ltJG
      have sfJGRS := hS _ (yJGRS.tail.tail.tail.tail.tail.blk)
      have qJGRS1 := ((((((((yJGRS.pk [2, 0, 1, 3, 4, 5, 6, 7]).set_ 0 (.string ⟨#[108, 111, 103]⟩)).set_ 1 (.int .i64 (s : Int))).set_ 2 (.string ⟨(R s).toArray⟩)).set_ 3 (.int .i64 (j : Int))).set_ 4 (.slice A1 (cA j s).length n1)).set_ 5 (.slice A2 (tA j).length n2)).set_ 6 (.slice none 0 0))
      have sfJGRS1 := hS _ (qJGRS1.tail.tail.tail.tail.tail.blk)
      clear qJGRS1
      have qJGRS2 := ((((((((((((yJGRS.pk [2, 0, 1, 3, 4, 5, 6, 7]).set_ 0 (.string ⟨#[108, 111, 103]⟩)).set_ 1 (.int .i64 (s : Int))).set_ 2 (.string ⟨(R s).toArray⟩)).set_ 3 (.int .i64 (j : Int))).set_ 4 (.slice A1 (cA j s).length n1)).set_ 5 (.slice A2 (tA j).length n2)).set_ 6 (.slice none 0 0)).pk [3, 0, 1, 2, 4, 5, 6, 7]).set_ 0 (.string ⟨SR.toArray⟩)).set_ 1 (.int .i64 2)).set_ 2 (.int .i64 ((j : Int) + 1)))
      have sfJGRS2 := hS _ (qJGRS2.tail.tail.tail.tail.tail.blk)
      clear qJGRS2
      obtain ⟨_, _, _, _, _, _, _, _, _, _, _, _, _, _⟩ := bk7 yJGRS.tail.tail.blk
      obtain ⟨_, _, _, _, _, _⟩ := bk3 yJGRS.tail.tail.tail.blk); go_wp2_with fail
     refine hK.out _ _ (by with_reducible exact sfJGRS) fun hH56 => ?_
     clear hK K hH55
     try simp only [pu]
     refine tk 8 74 hH56 ?_
     refine tk 9 83 hH56 ?_
     refine tk 10 84 hH56 ?_
     refine tk 11 85 hH56 ?_
     refine rdy [14] ?_
     refine az fun K hK => ?_
     go_simp
     refine hK.out _ _ (by with_reducible exact sfJGRS1) fun hH57 => ?_
     clear hK K hH56
     try simp only [pu]
     refine rdy [15] ?_
     refine az fun K hK => ?_
     go_simp
     refine hK.out _ _ (by with_reducible exact sfJGRS2) fun hH58 => ?_
     clear hK K hH57
     try simp only [pu]
     refine tk 16 18 hH58 ?_
     refine dn ?_ _
     all_goals (refine NoPanic.normal ?_)
     all_goals
      first
       | (have yF := ((yRS.alloc 32 #[.string ⟨#[108, 111, 103]⟩, .int .i64 (s : Int), .string ⟨(R s).toArray⟩, .int .i64 (j : Int), .slice A1 (cA j s).length n1, .slice A2 (tA j).length n2, .slice none 0 0]).alloc 23 #[.string ⟨SR.toArray⟩, .int .i64 2, .int .i64 ((j : Int) + 1)]).pk [1, 0, 2, 3, 4, 5, 6, 7]
          try simp only [ws] at yF
          obtain ⟨pJ, hpJ⟩ : ∃ q, wRS.heap.size + 1 = q := ⟨_, rfl⟩
          rw [hpJ] at yF ⊢
          obtain ⟨pG, hpG⟩ : ∃ q, wRS.heap.size = q := ⟨_, rfl⟩
          rw [hpG] at yF ⊢
          exact ⟨rfl, pG, pJ, A1, A2, n1, n2, rfl, yF⟩)
       | (have yF := ((yRS.alloc 23 #[.string ⟨SR.toArray⟩, .int .i64 2, .int .i64 ((j : Int) + 1)]).alloc 32 #[.string ⟨#[108, 111, 103]⟩, .int .i64 (s : Int), .string ⟨(R s).toArray⟩, .int .i64 (j : Int), .slice A1 (cA j s).length n1, .slice A2 (tA j).length n2, .slice none 0 0]).pk [0, 1, 2, 3, 4, 5, 6, 7]
          try simp only [ws] at yF
          obtain ⟨pG, hpG⟩ : ∃ q, wRS.heap.size + 1 = q := ⟨_, rfl⟩
          rw [hpG] at yF ⊢
          obtain ⟨pJ, hpJ⟩ : ∃ q, wRS.heap.size = q := ⟨_, rfl⟩
          rw [hpJ] at yF ⊢
          exact ⟨rfl, pG, pJ, A1, A2, n1, n2, rfl, yF⟩)
       | (have yF := (((((((((yRGS.pk [2, 0, 1, 3, 4, 5, 6]).set_ 0 (.string ⟨#[108, 111, 103]⟩)).set_ 1 (.int .i64 (s : Int))).set_ 2 (.string ⟨(R s).toArray⟩)).set_ 3 (.int .i64 (j : Int))).set_ 4 (.slice A1 (cA j s).length n1)).set_ 5 (.slice A2 (tA j).length n2)).set_ 6 (.slice none 0 0)).alloc 23 #[.string ⟨SR.toArray⟩, .int .i64 2, .int .i64 ((j : Int) + 1)]).pk [1, 0, 2, 3, 4, 5, 6, 7]
          try simp only [ws] at yF
          obtain ⟨pJ, hpJ⟩ : ∃ q, wRGS.heap.size = q := ⟨_, rfl⟩
          rw [hpJ] at yF ⊢
          obtain ⟨pG, hpG⟩ : ∃ q, wR.heap.size = q := ⟨_, rfl⟩
          rw [hpG] at yF ⊢
          exact ⟨rfl, pG, pJ, A1, A2, n1, n2, rfl, yF⟩)
       | (have yF := ((((((((((((yRGJS.pk [3, 0, 1, 2, 4, 5, 6, 7]).set_ 0 (.string ⟨#[108, 111, 103]⟩)).set_ 1 (.int .i64 (s : Int))).set_ 2 (.string ⟨(R s).toArray⟩)).set_ 3 (.int .i64 (j : Int))).set_ 4 (.slice A1 (cA j s).length n1)).set_ 5 (.slice A2 (tA j).length n2)).set_ 6 (.slice none 0 0)).pk [3, 0, 1, 2, 4, 5, 6, 7]).set_ 0 (.string ⟨SR.toArray⟩)).set_ 1 (.int .i64 2)).set_ 2 (.int .i64 ((j : Int) + 1))).pk [1, 0, 2, 3, 4, 5, 6, 7]
          try simp only [ws] at yF
          obtain ⟨pJ, hpJ⟩ : ∃ q, wR.heap.size + 1 = q := ⟨_, rfl⟩
          rw [hpJ] at yF ⊢
          obtain ⟨pG, hpG⟩ : ∃ q, wR.heap.size = q := ⟨_, rfl⟩
          rw [hpG] at yF ⊢
          exact ⟨rfl, pG, pJ, A1, A2, n1, n2, rfl, yF⟩)
       | (have yF := (((((yRJS.pk [2, 0, 1, 3, 4, 5, 6]).set_ 0 (.string ⟨SR.toArray⟩)).set_ 1 (.int .i64 2)).set_ 2 (.int .i64 ((j : Int) + 1))).alloc 32 #[.string ⟨#[108, 111, 103]⟩, .int .i64 (s : Int), .string ⟨(R s).toArray⟩, .int .i64 (j : Int), .slice A1 (cA j s).length n1, .slice A2 (tA j).length n2, .slice none 0 0]).pk [0, 1, 2, 3, 4, 5, 6, 7]
          try simp only [ws] at yF
          obtain ⟨pG, hpG⟩ : ∃ q, wRJS.heap.size = q := ⟨_, rfl⟩
          rw [hpG] at yF ⊢
          obtain ⟨pJ, hpJ⟩ : ∃ q, wR.heap.size = q := ⟨_, rfl⟩
          rw [hpJ] at yF ⊢
          exact ⟨rfl, pG, pJ, A1, A2, n1, n2, rfl, yF⟩)
       | (have yF := ((((((((((((yRJGS.pk [2, 0, 1, 3, 4, 5, 6, 7]).set_ 0 (.string ⟨#[108, 111, 103]⟩)).set_ 1 (.int .i64 (s : Int))).set_ 2 (.string ⟨(R s).toArray⟩)).set_ 3 (.int .i64 (j : Int))).set_ 4 (.slice A1 (cA j s).length n1)).set_ 5 (.slice A2 (tA j).length n2)).set_ 6 (.slice none 0 0)).pk [3, 0, 1, 2, 4, 5, 6, 7]).set_ 0 (.string ⟨SR.toArray⟩)).set_ 1 (.int .i64 2)).set_ 2 (.int .i64 ((j : Int) + 1))).pk [1, 0, 2, 3, 4, 5, 6, 7]
          try simp only [ws] at yF
          obtain ⟨pG, hpG⟩ : ∃ q, wR.heap.size + 1 = q := ⟨_, rfl⟩
          rw [hpG] at yF ⊢
          obtain ⟨pJ, hpJ⟩ : ∃ q, wR.heap.size = q := ⟨_, rfl⟩
          rw [hpJ] at yF ⊢
          exact ⟨rfl, pG, pJ, A1, A2, n1, n2, rfl, yF⟩)
       | (have yF := (((((((((yGRS.pk [2, 0, 1, 3, 4, 5, 6]).set_ 0 (.string ⟨#[108, 111, 103]⟩)).set_ 1 (.int .i64 (s : Int))).set_ 2 (.string ⟨(R s).toArray⟩)).set_ 3 (.int .i64 (j : Int))).set_ 4 (.slice A1 (cA j s).length n1)).set_ 5 (.slice A2 (tA j).length n2)).set_ 6 (.slice none 0 0)).alloc 23 #[.string ⟨SR.toArray⟩, .int .i64 2, .int .i64 ((j : Int) + 1)]).pk [1, 0, 2, 3, 4, 5, 6, 7]
          try simp only [ws] at yF
          obtain ⟨pJ, hpJ⟩ : ∃ q, wGRS.heap.size = q := ⟨_, rfl⟩
          rw [hpJ] at yF ⊢
          obtain ⟨pG, hpG⟩ : ∃ q, wz.heap.size = q := ⟨_, rfl⟩
          rw [hpG] at yF ⊢
          exact ⟨rfl, pG, pJ, A1, A2, n1, n2, rfl, yF⟩)
       | (have yF := ((((((((((((yGRJS.pk [3, 0, 1, 2, 4, 5, 6, 7]).set_ 0 (.string ⟨#[108, 111, 103]⟩)).set_ 1 (.int .i64 (s : Int))).set_ 2 (.string ⟨(R s).toArray⟩)).set_ 3 (.int .i64 (j : Int))).set_ 4 (.slice A1 (cA j s).length n1)).set_ 5 (.slice A2 (tA j).length n2)).set_ 6 (.slice none 0 0)).pk [3, 0, 1, 2, 4, 5, 6, 7]).set_ 0 (.string ⟨SR.toArray⟩)).set_ 1 (.int .i64 2)).set_ 2 (.int .i64 ((j : Int) + 1))).pk [1, 0, 2, 3, 4, 5, 6, 7]
          try simp only [ws] at yF
          obtain ⟨pJ, hpJ⟩ : ∃ q, wGR.heap.size = q := ⟨_, rfl⟩
          rw [hpJ] at yF ⊢
          obtain ⟨pG, hpG⟩ : ∃ q, wz.heap.size = q := ⟨_, rfl⟩
          rw [hpG] at yF ⊢
          exact ⟨rfl, pG, pJ, A1, A2, n1, n2, rfl, yF⟩)
       | (have yF := ((((((((((((yGJRS.pk [3, 0, 1, 2, 4, 5, 6, 7]).set_ 0 (.string ⟨#[108, 111, 103]⟩)).set_ 1 (.int .i64 (s : Int))).set_ 2 (.string ⟨(R s).toArray⟩)).set_ 3 (.int .i64 (j : Int))).set_ 4 (.slice A1 (cA j s).length n1)).set_ 5 (.slice A2 (tA j).length n2)).set_ 6 (.slice none 0 0)).pk [3, 0, 1, 2, 4, 5, 6, 7]).set_ 0 (.string ⟨SR.toArray⟩)).set_ 1 (.int .i64 2)).set_ 2 (.int .i64 ((j : Int) + 1))).pk [1, 0, 2, 3, 4, 5, 6, 7]
          try simp only [ws] at yF
          obtain ⟨pJ, hpJ⟩ : ∃ q, wz.heap.size + 1 = q := ⟨_, rfl⟩
          rw [hpJ] at yF ⊢
          obtain ⟨pG, hpG⟩ : ∃ q, wz.heap.size = q := ⟨_, rfl⟩
          rw [hpG] at yF ⊢
          exact ⟨rfl, pG, pJ, A1, A2, n1, n2, rfl, yF⟩)
       | (have yF := (((((yJRS.pk [2, 0, 1, 3, 4, 5, 6]).set_ 0 (.string ⟨SR.toArray⟩)).set_ 1 (.int .i64 2)).set_ 2 (.int .i64 ((j : Int) + 1))).alloc 32 #[.string ⟨#[108, 111, 103]⟩, .int .i64 (s : Int), .string ⟨(R s).toArray⟩, .int .i64 (j : Int), .slice A1 (cA j s).length n1, .slice A2 (tA j).length n2, .slice none 0 0]).pk [0, 1, 2, 3, 4, 5, 6, 7]
          try simp only [ws] at yF
          obtain ⟨pG, hpG⟩ : ∃ q, wJRS.heap.size = q := ⟨_, rfl⟩
          rw [hpG] at yF ⊢
          obtain ⟨pJ, hpJ⟩ : ∃ q, wz.heap.size = q := ⟨_, rfl⟩
          rw [hpJ] at yF ⊢
          exact ⟨rfl, pG, pJ, A1, A2, n1, n2, rfl, yF⟩)
       | (have yF := ((((((((((((yJRGS.pk [2, 0, 1, 3, 4, 5, 6, 7]).set_ 0 (.string ⟨#[108, 111, 103]⟩)).set_ 1 (.int .i64 (s : Int))).set_ 2 (.string ⟨(R s).toArray⟩)).set_ 3 (.int .i64 (j : Int))).set_ 4 (.slice A1 (cA j s).length n1)).set_ 5 (.slice A2 (tA j).length n2)).set_ 6 (.slice none 0 0)).pk [3, 0, 1, 2, 4, 5, 6, 7]).set_ 0 (.string ⟨SR.toArray⟩)).set_ 1 (.int .i64 2)).set_ 2 (.int .i64 ((j : Int) + 1))).pk [1, 0, 2, 3, 4, 5, 6, 7]
          try simp only [ws] at yF
          obtain ⟨pG, hpG⟩ : ∃ q, wJR.heap.size = q := ⟨_, rfl⟩
          rw [hpG] at yF ⊢
          obtain ⟨pJ, hpJ⟩ : ∃ q, wz.heap.size = q := ⟨_, rfl⟩
          rw [hpJ] at yF ⊢
          exact ⟨rfl, pG, pJ, A1, A2, n1, n2, rfl, yF⟩)
       | (have yF := ((((((((((((yJGRS.pk [2, 0, 1, 3, 4, 5, 6, 7]).set_ 0 (.string ⟨#[108, 111, 103]⟩)).set_ 1 (.int .i64 (s : Int))).set_ 2 (.string ⟨(R s).toArray⟩)).set_ 3 (.int .i64 (j : Int))).set_ 4 (.slice A1 (cA j s).length n1)).set_ 5 (.slice A2 (tA j).length n2)).set_ 6 (.slice none 0 0)).pk [3, 0, 1, 2, 4, 5, 6, 7]).set_ 0 (.string ⟨SR.toArray⟩)).set_ 1 (.int .i64 2)).set_ 2 (.int .i64 ((j : Int) + 1))).pk [1, 0, 2, 3, 4, 5, 6, 7]
          try simp only [ws] at yF
          obtain ⟨pG, hpG⟩ : ∃ q, wz.heap.size + 1 = q := ⟨_, rfl⟩
          rw [hpG] at yF ⊢
          obtain ⟨pJ, hpJ⟩ : ∃ q, wz.heap.size = q := ⟨_, rfl⟩
          rw [hpJ] at yF ⊢
          exact ⟨rfl, pG, pJ, A1, A2, n1, n2, rfl, yF⟩)
    case k =>
     rintro pc pn A1 A2 n1 n2 w8 y8
     obtain ⟨uA1, uA2⟩ : (cA j s).length ≤ n1 ∧ n1 ≤ maxLen := by (obtain ⟨_, _, e, q1, q2⟩ := own_form y8.tail.tail.own; injection e with _ _ e; subst e; exact ⟨q1, q2⟩)
     obtain ⟨uB1, uB2⟩ : (tA j).length ≤ n2 ∧ n2 ≤ maxLen := by (obtain ⟨_, _, e, q1, q2⟩ := own_form y8.tail.tail.tail.own; injection e with _ _ e; subst e; exact ⟨q1, q2⟩)
     have UA := Lib.hid (And.intro uA1 (And.intro uA2 (And.intro uB1 uB2)))
     clear uA1 uA2 uB1 uB2 hS h kRs ksj
     have a0 := y8.blk.cell 0
     have a1 := y8.blk.cell 1
     have a2 := y8.blk.cell 2
     have a3 := y8.blk.cell 3
     have a4 := y8.blk.cell 4
     have a5 := y8.blk.cell 5
     have a6 := y8.blk.cell 6
     go_wp2_with fail
     refine (kvj _ _ _ _ _ (Rd.of_own y8.tail.tail.own) (Rd.of_own y8.tail.tail.tail.own) UA.out.1 UA.out.2.1 UA.out.2.2.1 UA.out.2.2.2).mono ?_
     rintro e w9 ⟨rfl, b9⟩
     have y9 := y8.under b9
     clear kvj b9 y8 a0 a1 a2 a3 a4 a5 a6
     go_wp2_with fail
     refine (kcj _ _ _ (Rd.of_own y9.tail.tail.tail.tail.tail.tail.tail.own) hc1 hm1).mono ?_
     rintro e w10 ⟨pv, rfl, t10⟩
     obtain ⟨Y, d, rfl, u1, u2⟩ := own_form t10.own
     have U10 := Lib.hid (And.intro u1 u2)
     have y10 := y9.join t10
     clear kcj t10 y9 u1 u2
     have a0 := y10.tail.blk.cell 0
     have a1 := y10.tail.blk.cell 1
     have a2 := y10.tail.blk.cell 2
     have a3 := y10.tail.blk.cell 3
     have a4 := y10.tail.blk.cell 4
     have a5 := y10.tail.blk.cell 5
     have a6 := y10.tail.blk.cell 6
     have e0 := y10.tail.tail.tail.tail.tail.blk.cell 0
     have e1 := y10.tail.tail.tail.tail.tail.blk.cell 1
     have e2 := y10.tail.tail.tail.tail.tail.blk.cell 2
     have e3 := y10.tail.tail.tail.tail.tail.blk.cell 3
     have e4 := y10.tail.tail.tail.tail.tail.blk.cell 4
     have e5 := y10.tail.tail.tail.tail.tail.blk.cell 5
     have e6 := y10.tail.tail.tail.tail.tail.blk.cell 6
     have e7 := y10.tail.tail.tail.tail.tail.blk.cell 7
     go_wp2_with fail
     refine (koj _ _ _ _ _ _ _ (Rd.of_own y10.tail.tail.tail.own) (Rd.of_own y10.tail.tail.tail.tail.own) UA.out.1 UA.out.2.1 UA.out.2.2.1 UA.out.2.2.2 (Rd.of_own y10.own) U10.out.1 U10.out.2).mono ?_
     rintro e w11 ⟨va, vb, rfl, t11⟩
     obtain ⟨A5, n5, rfl, ux1, ux2⟩ := own_form t11.own
     obtain ⟨A6, n6, rfl, ux3, ux4⟩ := own_form t11.tail.own
     have UX := Lib.hid (And.intro ux1 (And.intro ux2 (And.intro ux3 ux4)))
     have y11 := y10.join t11
     clear koj t11 y10 ux1 ux2 ux3 ux4 a0 a1 a2 a3 a4 a5 a6 e0 e1 e2 e3 e4 e5 e6 e7
     have y20 := ((y11.alloc 37 #[.string ⟨#[108, 111, 103]⟩, .string ⟨PR.toArray⟩, .string ⟨SW.toArray⟩, .int .i64 2, .int .i64 ((j : Int) + 1), .string ⟨#[108, 111, 103]⟩, .int .i64 (s : Int), .string ⟨(R s).toArray⟩]).alloc 64 #[.string ⟨PW.toArray⟩, .int .i64 (j : Int), .slice A5 (cX j s).length n5, .slice A6 (tX j).length n6]).new_own (e := 64) (size := 4) (v := .slice none 0 0) (n := 0) (xs := []) (Below.refl _ _) (World.ownsRow_nil _ _ _ _)
     simp only [World.size_alloc] at y20
     have a0 := y20.tail.tail.tail.tail.tail.tail.blk.cell 0
     have a1 := y20.tail.tail.tail.tail.tail.tail.blk.cell 1
     have a2 := y20.tail.tail.tail.tail.tail.tail.blk.cell 2
     have a3 := y20.tail.tail.tail.tail.tail.tail.blk.cell 3
     have a4 := y20.tail.tail.tail.tail.tail.tail.blk.cell 4
     have a5 := y20.tail.tail.tail.tail.tail.tail.blk.cell 5
     have a6 := y20.tail.tail.tail.tail.tail.tail.blk.cell 6
     have Y20 := Lib.hid y20
     clear y11 y20
     go_wp2_with (at_builtin; go_must (refine appendRow 30 (te := 64) #[.string ⟨PW.toArray⟩, .int .i64 (j : Int), .slice A5 (cX j s).length n5, .slice A6 (tX j).length n6] Y20.out Tryz.underlying30 info_cos rfl (by decide) rfl _ _ rfl rfl (by show Value.slice (some ⟨w11.heap.size + 1 + 1, 0, none⟩) 1 1 = _; simp only [World.size_alloc]) rfl (by intro u hu; simp at hu; rcases hu with rfl | rfl | rfl | rfl <;> rfl) (by decide) (by decide) ?_); intro v8 w21 y21; obtain ⟨X, cc, rfl, cb1, cb2⟩ := own_form y21.own; have UC := Lib.hid (And.intro cb1 cb2); clear cb1 cb2 a0 a1 a2 a3 a4 a5 a6; have a0 := (y21.tail.tail.tail.tail.tail.tail).blk.cell 0; have a1 := (y21.tail.tail.tail.tail.tail.tail).blk.cell 1; have a2 := (y21.tail.tail.tail.tail.tail.tail).blk.cell 2; have a3 := (y21.tail.tail.tail.tail.tail.tail).blk.cell 3; have a4 := (y21.tail.tail.tail.tail.tail.tail).blk.cell 4; have a5 := (y21.tail.tail.tail.tail.tail.tail).blk.cell 5; have a6 := (y21.tail.tail.tail.tail.tail.tail).blk.cell 6; have af6 := (y21.tail.tail.tail.tail.tail.tail).blk.frozen 6; have x0 := y21.tail.blk.cell 0; have Y21 := Lib.hid y21; clear y21)
     have y22 := (((Y21.out.pk [6, 0, 3, 4, 7, 2, 10, 11, 12, 13]).set_ 6 (.slice X 1 cc))).alloc 9 #[.string ⟨PW.toArray⟩, .string ⟨PW.toArray⟩, .string ⟨PR.toArray⟩]
     simp only [World.size_setCell] at y22
     replace y22 : St w.heap.size w _ ([cellsR w21.heap.size 9 #[.string ⟨PW.toArray⟩, .string ⟨PW.toArray⟩, .string ⟨PR.toArray⟩], cellsR (pc) 32 #[.string ⟨#[108, 111, 103]⟩, .int .i64 (s : Int), .string ⟨(R s).toArray⟩, .int .i64 (j : Int), .slice A1 (cA j s).length n1, .slice A2 (tA j).length n2, .slice X 1 cc], ownR 64 4 (.slice X 1 cc) 1 (List.flatMap rowC [(⟨PW, (j : Int), A5, cX j s, n5, A6, tX j, n6⟩ : SgRow)]), ownR 9 1 (.slice A5 (cX j s).length n5) (cX j s).length (strs (cX j s)), ownR 9 1 (.slice A6 (tX j).length n6) (tX j).length (strs (tX j)), cellsR (pn) 23 #[.string ⟨SR.toArray⟩, .int .i64 2, .int .i64 ((j : Int) + 1)], cellsR (w11.heap.size) 37 #[.string ⟨#[108, 111, 103]⟩, .string ⟨PR.toArray⟩, .string ⟨SW.toArray⟩, .int .i64 2, .int .i64 ((j : Int) + 1), .string ⟨#[108, 111, 103]⟩, .int .i64 (s : Int), .string ⟨(R s).toArray⟩], cellsR (pw) 37 #[.string ⟨#[108, 111, 103]⟩, .string ⟨PR.toArray⟩, .string ⟨SW.toArray⟩, .int .i64 2, .int .i64 (j : Int), .string ⟨#[108, 111, 103]⟩, .int .i64 (m : Int), .string ⟨(R m).toArray⟩], cellsR (pk) 23 #[.string ⟨SR.toArray⟩, .int .i64 2, .int .i64 (j : Int)], ownR 32 7 (.slice AV j vc) j (Cs.flatMap ckC), ownR 9 1 (.slice P1 N c1) N (strs L)]) := y22
     have hRX : RowsR _ X [(⟨PW, (j : Int), A5, cX j s, n5, A6, tX j, n6⟩ : SgRow)] := ⟨Rd.of_own y22.tail.tail.own, fun x hx => by (rw [List.mem_singleton.1 hx]; exact ⟨Rd.of_own y22.tail.tail.tail.own, Rd.of_own y22.tail.tail.tail.tail.own, UX.out.1, UX.out.2.1, UX.out.2.2.1, UX.out.2.2.2⟩)⟩
     refine (kxj _ _ _ _ _ _ _ _ _ _ _ _ hRX UC.out.1 UC.out.2 (rd_strs3h y22.blk)).mono ?_
     rintro e w22 ⟨rfl, b22⟩
     have y23 := (y22.under b22).tail.pk [0, 4, 5, 6, 7, 8, 9]
     clear kxj b22 y22 Y21 Y20 hRX a0 a1 a2 a3 a4 a5 a6 af6 x0
     obtain ⟨pv, hpv⟩ : ∃ q, w11.heap.size = q := ⟨_, rfl⟩
     rw [hpv] at y23 ⊢
     clear hpv
     have Y23 := Lib.hid y23
     clear y23
     go_wp2_with fail
     go_loopw [136] (fun i wr => ∃ k : Nat, k ≤ j ∧ i = .int .i64 (k : Int) ∧ St w.heap.size w wr [cellsR (pc) 32 #[.string ⟨#[108, 111, 103]⟩, .int .i64 (s : Int), .string ⟨(R s).toArray⟩, .int .i64 (j : Int), .slice A1 (cA j s).length n1, .slice A2 (tA j).length n2, .slice X 1 cc], cellsR (pn) 23 #[.string ⟨SR.toArray⟩, .int .i64 2, .int .i64 ((j : Int) + 1)], cellsR (pv) 37 #[.string ⟨#[108, 111, 103]⟩, .string ⟨PR.toArray⟩, .string ⟨SW.toArray⟩, .int .i64 2, .int .i64 ((j : Int) + 1), .string ⟨#[108, 111, 103]⟩, .int .i64 (s : Int), .string ⟨(R s).toArray⟩], cellsR (pw) 37 #[.string ⟨#[108, 111, 103]⟩, .string ⟨PR.toArray⟩, .string ⟨SW.toArray⟩, .int .i64 2, .int .i64 (j : Int), .string ⟨#[108, 111, 103]⟩, .int .i64 (m : Int), .string ⟨(R m).toArray⟩], cellsR (pk) 23 #[.string ⟨SR.toArray⟩, .int .i64 2, .int .i64 (j : Int)], ownR 32 7 (.slice AV j vc) j (Cs.flatMap ckC), ownR 9 1 (.slice P1 N c1) N (strs L)]) (fun i _ => j - (intOf i).toNat)
     case atStart => exact ⟨0, Nat.zero_le _, rfl, Y23.out⟩
     case round =>
      clear Y23
      obtain ⟨k, hk, rfl, g⟩ := hrel
      obtain ⟨wy, rfl⟩ : ∃ wy, wy = wr := ⟨_, rfl⟩
      have k0 : (0 : Int) ≤ (k : Int) := Int.natCast_nonneg _
      by_cases hkj : k < j
      ·have k1 : (k : Int) < (j : Int) := Int.ofNat_lt.2 hkj
       have hkC : k < Cs.length := by rw [HQ.out.2.1]; exact hkj
       obtain ⟨ab, rfl⟩ : ∃ ab, AV = some ⟨ab, 0, none⟩ := own_some g.tail.tail.tail.tail.tail.own (Nat.lt_of_le_of_lt (Nat.zero_le _) hkj)
       have hrow := ck_get (Rd.of_own g.tail.tail.tail.tail.tail.own) hkC
       obtain ⟨q, hq, hz, hr⟩ := HQ.out.1 _ (List.getElem_mem hkC)
       generalize Cs[k] = x at hrow hz hr
       obtain ⟨xo, xz, xr, xi, xA, xC, xa, xB, xT, xb, xX, xL, xc⟩ := x
       dsimp only at hrow hz hr
       subst hz hr
       obtain ⟨r0, r1, r2, r3, r4, r5, r6⟩ := hrow
       have kxx : ∀ W c A, Rd W A (strs L) → N ≤ c → c ≤ maxLen → Calls Tryz.prog 38 #[.agg #[.string ⟨xo.toArray⟩, .int .i64 (q : Int), .string ⟨(R q).toArray⟩, .int .i64 xi, .slice xA xC.length xa, .slice xB xT.length xb, .slice xX xL.length xc], .agg #[.string ⟨#[108, 111, 103]⟩, .int .i64 (s : Int), .string ⟨(R s).toArray⟩, .int .i64 (j : Int), .slice A1 (cA j s).length n1, .slice A2 (tA j).length n2, .slice X 1 cc], .slice A s c] W (fun e w' => ∃ p1 p2 p3, e = .returned (.tuple #[.agg #[.string ⟨#[]⟩, .int .i64 0, .string ⟨#[]⟩, .int .i64 0, .slice none 0 0, .slice none 0 0, .slice none 0 0, .string ⟨#[]⟩, .int .i64 0, .string ⟨#[]⟩, .int .i64 0, .slice none 0 0, .slice none 0 0, .slice none 0 0, .string ⟨#[]⟩, .slice p1 p2 p3], .bool false]) ∧ Below W.heap.size W w') := fun W c A a1 a2 a3 => kcmp q s (Nat.le_trans hq HQ.out.2.2.2.1) HQ.out.2.2.2.2.1 W ⟨xo, (q : Int), R q, xi, xA, xC, xa, xB, xT, xb, xX, xL, xc⟩ ⟨[108, 111, 103], (s : Int), R s, (j : Int), A1, cA j s, n1, A2, tA j, n2, X, [⟨PW, (j : Int), A5, cX j s, n5, A6, tX j, n6⟩], cc⟩ c A rfl rfl a1 a2 a3
       have KK := Lib.hid hkj
       have a0 := g.blk.cell 0
       clear hkj hkC hq hk a0
       have g1 := g.alloc 32 #[.string ⟨xo.toArray⟩, .int .i64 (q : Int), .string ⟨(R q).toArray⟩, .int .i64 xi, .slice xA xC.length xa, .slice xB xT.length xb, .slice xX xL.length xc]
       go_wp2_with fail
       obtain ⟨wx, hwx⟩ : ∃ wx, wy.alloc (.cells #[.string ⟨xo.toArray⟩, .int .i64 (q : Int), .string ⟨(R q).toArray⟩, .int .i64 xi, .slice xA xC.length xa, .slice xB xT.length xb, .slice xX xL.length xc] 32) = wx := ⟨_, rfl⟩
       rw [hwx] at g1 ⊢
       obtain ⟨po, hpo⟩ : ∃ po, wy.heap.size = po := ⟨_, rfl⟩
       rw [hpo] at g1 ⊢
       clear hwx hpo r0 r1 r2 r3 r4 r5 r6 g
       have hS : ∀ W', Blk W' po 32 #[.string ⟨xo.toArray⟩, .int .i64 (q : Int), .string ⟨(R q).toArray⟩, .int .i64 xi, .slice xA xC.length xa, .slice xB xT.length xb, .slice xX xL.length xc] → Blk W' pc 32 #[.string ⟨#[108, 111, 103]⟩, .int .i64 (s : Int), .string ⟨(R s).toArray⟩, .int .i64 (j : Int), .slice A1 (cA j s).length n1, .slice A2 (tA j).length n2, .slice X 1 cc] → (W'.cell? ⟨po, 0, none⟩ = some (.string ⟨xo.toArray⟩) ∧ W'.cell? ⟨po, 1, none⟩ = some (.int .i64 (q : Int)) ∧ W'.cell? ⟨po, 2, none⟩ = some (.string ⟨(R q).toArray⟩) ∧ W'.cell? ⟨po, 3, none⟩ = some (.int .i64 xi) ∧ W'.cell? ⟨po, 4, none⟩ = some (.slice xA xC.length xa) ∧ W'.cell? ⟨po, 5, none⟩ = some (.slice xB xT.length xb) ∧ W'.cell? ⟨po, 6, none⟩ = some (.slice xX xL.length xc) ∧ W'.cell? ⟨pc, 0, none⟩ = some (.string ⟨#[108, 111, 103]⟩) ∧ W'.cell? ⟨pc, 1, none⟩ = some (.int .i64 (s : Int)) ∧ W'.cell? ⟨pc, 2, none⟩ = some (.string ⟨(R s).toArray⟩) ∧ W'.cell? ⟨pc, 3, none⟩ = some (.int .i64 (j : Int)) ∧ W'.cell? ⟨pc, 4, none⟩ = some (.slice A1 (cA j s).length n1) ∧ W'.cell? ⟨pc, 5, none⟩ = some (.slice A2 (tA j).length n2) ∧ W'.cell? ⟨pc, 6, none⟩ = some (.slice X 1 cc)) := fun W' hb hk => ⟨hb.cell 0, hb.cell 1, hb.cell 2, hb.cell 3, hb.cell 4, hb.cell 5, hb.cell 6, hk.cell 0, hk.cell 1, hk.cell 2, hk.cell 3, hk.cell 4, hk.cell 5, hk.cell 6⟩
       have q0 := g1.drew
       have sf := hS _ (q0).blk (q0.tail).blk
       clear q0
       have qG0 := (g1.alloc 70 #[.string ⟨#[]⟩, .int .i64 0, .string ⟨#[]⟩, .int .i64 0, .slice none 0 0, .slice none 0 0, .slice none 0 0, .string ⟨#[]⟩, .int .i64 0, .string ⟨#[]⟩, .int .i64 0, .slice none 0 0, .slice none 0 0, .slice none 0 0, .string ⟨#[]⟩, .slice none 0 0]).drew
       have sfG := hS _ (qG0.tail).blk (qG0.tail.tail).blk
       clear qG0
       refine wp_region_noPanic ?_
       refine wp_region_held_drew (S := (fun W' => W'.cell? ⟨po, 0, none⟩ = some (.string ⟨xo.toArray⟩) ∧ W'.cell? ⟨po, 1, none⟩ = some (.int .i64 (q : Int)) ∧ W'.cell? ⟨po, 2, none⟩ = some (.string ⟨(R q).toArray⟩) ∧ W'.cell? ⟨po, 3, none⟩ = some (.int .i64 xi) ∧ W'.cell? ⟨po, 4, none⟩ = some (.slice xA xC.length xa) ∧ W'.cell? ⟨po, 5, none⟩ = some (.slice xB xT.length xb) ∧ W'.cell? ⟨po, 6, none⟩ = some (.slice xX xL.length xc) ∧ W'.cell? ⟨pc, 0, none⟩ = some (.string ⟨#[108, 111, 103]⟩) ∧ W'.cell? ⟨pc, 1, none⟩ = some (.int .i64 (s : Int)) ∧ W'.cell? ⟨pc, 2, none⟩ = some (.string ⟨(R s).toArray⟩) ∧ W'.cell? ⟨pc, 3, none⟩ = some (.int .i64 (j : Int)) ∧ W'.cell? ⟨pc, 4, none⟩ = some (.slice A1 (cA j s).length n1) ∧ W'.cell? ⟨pc, 5, none⟩ = some (.slice A2 (tA j).length n2) ∧ W'.cell? ⟨pc, 6, none⟩ = some (.slice X 1 cc))) (by kernel_rfl) ?_ (fun hH0 => ?_)
       ·with_reducible exact sf
       refine tk 0 141 hH0 ?_
       refine tk 1 142 hH0 ?_
       refine tk 2 143 hH0 ?_
       refine tk 3 144 hH0 ?_
       refine tk 4 145 hH0 ?_
       refine rdy [5, 9] ?_
       refine ad 146 (fun K hK => ?_) ?_
       go_simp; (
        (with_reducible refine (kxx _ _ _ (Rd.of_own (g1.drew.tail.tail.tail.tail.tail.tail.tail.own)) hc1 hm1).mono ?_)
        rintro e wC ⟨p1, p2, p3, rfl, bC⟩
        have yC := g1.drew.under bC
        have sfC := hS _ (yC).blk (yC.tail).blk
        have qCG0 := (yC.alloc 70 #[.string ⟨#[]⟩, .int .i64 0, .string ⟨#[]⟩, .int .i64 0, .slice none 0 0, .slice none 0 0, .slice none 0 0, .string ⟨#[]⟩, .int .i64 0, .string ⟨#[]⟩, .int .i64 0, .slice none 0 0, .slice none 0 0, .slice none 0 0, .string ⟨#[]⟩, .slice none 0 0])
        have sfCG := hS _ (qCG0.tail).blk (qCG0.tail.tail).blk
        clear qCG0
        have qCG1 := (yC.alloc 70 #[.string ⟨#[]⟩, .int .i64 0, .string ⟨#[]⟩, .int .i64 0, .slice none 0 0, .slice none 0 0, .slice none 0 0, .string ⟨#[]⟩, .int .i64 0, .string ⟨#[]⟩, .int .i64 0, .slice none 0 0, .slice none 0 0, .slice none 0 0, .string ⟨#[]⟩, .slice p1 p2 p3])
        have sfCG1 := hS _ (qCG1.tail).blk (qCG1.tail.tail).blk
        clear qCG1); go_wp2_with fail
       refine hK.out _ _ (by with_reducible exact sfC) fun hH1 => ?_
       clear hK K hH0
       try simp only [pu]
       refine tk 6 140 hH1 ?_
       refine tk 7 147 hH1 ?_
       refine tk 8 148 hH1 ?_
       refine rdy [9] ?_
       refine an 25 fun K hK => ?_
       go_simp
       refine hK.out _ _ (by with_reducible exact sfCG) fun hH2 => ?_
       clear hK K hH1
       try simp only [pu]
       refine rdy [10] ?_
       refine az fun K hK => ?_
       go_simp
       refine hK.out _ _ (by with_reducible exact sfCG1) fun hH3 => ?_
       clear hK K hH2
       try simp only [pu]
       refine tk 11 26 hH3 ?_
       refine dn ?_ _
       rotate_left 1
       refine an 25 fun K hK => ?_
       go_simp
       refine hK.out _ _ (by with_reducible exact sfG) fun hH4 => ?_
       clear hK K hH0
       try simp only [pu]
       refine rdy [5] ?_
       refine an 146 fun K hK => ?_
       go_simp; (
        (with_reducible refine (kxx _ _ _ (Rd.of_own ((g1.alloc 70 #[.string ⟨#[]⟩, .int .i64 0, .string ⟨#[]⟩, .int .i64 0, .slice none 0 0, .slice none 0 0, .slice none 0 0, .string ⟨#[]⟩, .int .i64 0, .string ⟨#[]⟩, .int .i64 0, .slice none 0 0, .slice none 0 0, .slice none 0 0, .string ⟨#[]⟩, .slice none 0 0]).drew.tail.tail.tail.tail.tail.tail.tail.tail.own)) hc1 hm1).mono ?_)
        rintro e wGC ⟨p1, p2, p3, rfl, bC⟩
        have yGC := (g1.alloc 70 #[.string ⟨#[]⟩, .int .i64 0, .string ⟨#[]⟩, .int .i64 0, .slice none 0 0, .slice none 0 0, .slice none 0 0, .string ⟨#[]⟩, .int .i64 0, .string ⟨#[]⟩, .int .i64 0, .slice none 0 0, .slice none 0 0, .slice none 0 0, .string ⟨#[]⟩, .slice none 0 0]).drew.under bC
        have ltG := (yGC).blk.lt
        have neG : ¬ (wGC.heap.size = wx.heap.size) := Nat.ne_of_gt ltG
        have sfGC := hS _ (yGC.tail).blk (yGC.tail.tail).blk
        have qGC1 := ((((((((((((((((yGC.set_ 0 (.string ⟨#[]⟩)).set_ 1 (.int .i64 0)).set_ 2 (.string ⟨#[]⟩)).set_ 3 (.int .i64 0)).set_ 4 (.slice none 0 0)).set_ 5 (.slice none 0 0)).set_ 6 (.slice none 0 0)).set_ 7 (.string ⟨#[]⟩)).set_ 8 (.int .i64 0)).set_ 9 (.string ⟨#[]⟩)).set_ 10 (.int .i64 0)).set_ 11 (.slice none 0 0)).set_ 12 (.slice none 0 0)).set_ 13 (.slice none 0 0)).set_ 14 (.string ⟨#[]⟩)).set_ 15 (.slice p1 p2 p3))
        have sfGC1 := hS _ (qGC1.tail).blk (qGC1.tail.tail).blk
        clear qGC1
        obtain ⟨_, _, _, _, _, _, _, _, _, _, _, _, _, _, _, _, _, _, _, _, _, _, _, _, _, _, _, _, _, _, _, _⟩ := bk16 yGC.blk); go_wp2_with fail
       refine hK.out _ _ (by with_reducible exact sfGC) fun hH5 => ?_
       clear hK K hH4
       try simp only [pu]
       refine tk 6 140 hH5 ?_
       refine tk 7 147 hH5 ?_
       refine tk 8 148 hH5 ?_
       refine rdy [10] ?_
       refine az fun K hK => ?_
       go_simp
       refine hK.out _ _ (by with_reducible exact sfGC1) fun hH6 => ?_
       clear hK K hH5
       try simp only [pu]
       refine tk 11 26 hH6 ?_
       refine dn ?_ _
       all_goals (refine NoPanic.normal ?_)
       all_goals
        first
         | (have yF := (yC.alloc 70 #[.string ⟨#[]⟩, .int .i64 0, .string ⟨#[]⟩, .int .i64 0, .slice none 0 0, .slice none 0 0, .slice none 0 0, .string ⟨#[]⟩, .int .i64 0, .string ⟨#[]⟩, .int .i64 0, .slice none 0 0, .slice none 0 0, .slice none 0 0, .string ⟨#[]⟩, .slice p1 p2 p3]).pk [2, 3, 4, 5, 6, 7, 8]
            try simp only [ws] at yF
            obtain ⟨pG, hpG⟩ : ∃ q, wC.heap.size = q := ⟨_, rfl⟩
            rw [hpG] at yF ⊢
            have G2 := Lib.hid yF
            clear yF
            go_wp2
            go_roundw
            case rel => exact ⟨k + 1, Nat.succ_le_of_lt KK.out, by go_num, G2.out⟩
            case measure => have := KK.out; simp [intOf]; omega)
         | (have yF := ((((((((((((((((yGC.set_ 0 (.string ⟨#[]⟩)).set_ 1 (.int .i64 0)).set_ 2 (.string ⟨#[]⟩)).set_ 3 (.int .i64 0)).set_ 4 (.slice none 0 0)).set_ 5 (.slice none 0 0)).set_ 6 (.slice none 0 0)).set_ 7 (.string ⟨#[]⟩)).set_ 8 (.int .i64 0)).set_ 9 (.string ⟨#[]⟩)).set_ 10 (.int .i64 0)).set_ 11 (.slice none 0 0)).set_ 12 (.slice none 0 0)).set_ 13 (.slice none 0 0)).set_ 14 (.string ⟨#[]⟩)).set_ 15 (.slice p1 p2 p3)).pk [2, 3, 4, 5, 6, 7, 8]
            try simp only [ws] at yF
            obtain ⟨pG, hpG⟩ : ∃ q, wx.heap.size = q := ⟨_, rfl⟩
            rw [hpG] at yF ⊢
            have G2 := Lib.hid yF
            clear yF
            go_wp2
            go_roundw
            case rel => exact ⟨k + 1, Nat.succ_le_of_lt KK.out, by go_num, G2.out⟩
            case measure => have := KK.out; simp [intOf]; omega)
      ·obtain rfl : j = k := (Nat.le_antisymm hk (Nat.le_of_not_lt hkj)).symm
       clear hk hkj kcmp
       have gA := Lib.hid (g.pk [5, 0, 1, 2, 3, 4, 6])
       have q1 : (j + 1) * 120 ≤ 140737488355328 := by have := HQ.out.2.2.2.2.2.1; omega
       have q2 : j + 1 ≤ maxLen := by have := HQ.out.2.2.2.2.2.1; unfold maxLen; omega
       have a0 := g.blk.cell 0
       have a1 := g.blk.cell 1
       have a2 := g.blk.cell 2
       have a3 := g.blk.cell 3
       have a4 := g.blk.cell 4
       have a5 := g.blk.cell 5
       have a6 := g.blk.cell 6
       clear g
       go_wp2_with (at_builtin; go_must (refine appendRow 80 (te := 32) #[.string ⟨#[108, 111, 103]⟩, .int .i64 (s : Int), .string ⟨(R s).toArray⟩, .int .i64 (j : Int), .slice A1 (cA j s).length n1, .slice A2 (tA j).length n2, .slice X 1 cc] gA.out Tryz.underlying80 info_ck rfl (by decide) rfl _ _ rfl rfl rfl rfl (by intro u hu; simp at hu; rcases hu with rfl | rfl | rfl | rfl | rfl | rfl | rfl <;> rfl) q2 q1 ?_); intro v9 w31 y31; have Y31 := Lib.hid y31; clear y31 a0 a1 a2 a3 a4 a5 a6)
       have yF := Y31.out.pk [5, 4, 2, 3, 0, 6]
       clear Y31 gA
       apply region_same (fun w' => St w.heap.size w w' [cellsR (pk) 23 #[.string ⟨SR.toArray⟩, .int .i64 2, .int .i64 ((j : Int) + 1)], cellsR (pw) 37 #[.string ⟨#[108, 111, 103]⟩, .string ⟨PR.toArray⟩, .string ⟨SW.toArray⟩, .int .i64 2, .int .i64 ((j : Int) + 1), .string ⟨#[108, 111, 103]⟩, .int .i64 (s : Int), .string ⟨(R s).toArray⟩], cellsR (pn) 23 #[.string ⟨SR.toArray⟩, .int .i64 2, .int .i64 ((j : Int) + 1)], cellsR (pv) 37 #[.string ⟨#[108, 111, 103]⟩, .string ⟨PR.toArray⟩, .string ⟨SW.toArray⟩, .int .i64 2, .int .i64 ((j : Int) + 1), .string ⟨#[108, 111, 103]⟩, .int .i64 (s : Int), .string ⟨(R s).toArray⟩], ownR 32 7 v9 (j + 1) (Cs.flatMap ckC ++ (#[.string ⟨#[108, 111, 103]⟩, .int .i64 (s : Int), .string ⟨(R s).toArray⟩, .int .i64 (j : Int), .slice A1 (cA j s).length n1, .slice A2 (tA j).length n2, .slice X 1 cc] : Array Value).toList), ownR 9 1 (.slice P1 N c1) N (strs L)])
       case h =>
        have hT : ∀ W' (R0 R1 R2 R3 : Res), St w.heap.size w W' [R0, R1, cellsR (pn) 23 #[.string ⟨SR.toArray⟩, .int .i64 2, .int .i64 ((j : Int) + 1)], cellsR (pv) 37 #[.string ⟨#[108, 111, 103]⟩, .string ⟨PR.toArray⟩, .string ⟨SW.toArray⟩, .int .i64 2, .int .i64 ((j : Int) + 1), .string ⟨#[108, 111, 103]⟩, .int .i64 (s : Int), .string ⟨(R s).toArray⟩], R2, R3] → (W'.cell? ⟨pn, 0, none⟩ = some (.string ⟨SR.toArray⟩) ∧ W'.cell? ⟨pn, 1, none⟩ = some (.int .i64 2) ∧ W'.cell? ⟨pn, 2, none⟩ = some (.int .i64 ((j : Int) + 1)) ∧ W'.cell? ⟨pv, 0, none⟩ = some (.string ⟨#[108, 111, 103]⟩) ∧ W'.cell? ⟨pv, 1, none⟩ = some (.string ⟨PR.toArray⟩) ∧ W'.cell? ⟨pv, 2, none⟩ = some (.string ⟨SW.toArray⟩) ∧ W'.cell? ⟨pv, 3, none⟩ = some (.int .i64 2) ∧ W'.cell? ⟨pv, 4, none⟩ = some (.int .i64 ((j : Int) + 1)) ∧ W'.cell? ⟨pv, 5, none⟩ = some (.string ⟨#[108, 111, 103]⟩) ∧ W'.cell? ⟨pv, 6, none⟩ = some (.int .i64 (s : Int)) ∧ W'.cell? ⟨pv, 7, none⟩ = some (.string ⟨(R s).toArray⟩)) := fun W' R0 R1 R2 R3 hh => ⟨hh.tail.tail.blk.cell 0, hh.tail.tail.blk.cell 1, hh.tail.tail.blk.cell 2, hh.tail.tail.tail.blk.cell 0, hh.tail.tail.tail.blk.cell 1, hh.tail.tail.tail.blk.cell 2, hh.tail.tail.tail.blk.cell 3, hh.tail.tail.tail.blk.cell 4, hh.tail.tail.tail.blk.cell 5, hh.tail.tail.tail.blk.cell 6, hh.tail.tail.tail.blk.cell 7⟩
        have s0 := hT _ _ _ _ _ yF.drew
        have zA := (((yF.set_ 0 (.string ⟨SR.toArray⟩)).set_ 1 (.int .i64 2)).set_ 2 (.int .i64 ((j : Int) + 1)))
        have zAB := (((((((((((((yF.set_ 0 (.string ⟨SR.toArray⟩)).set_ 1 (.int .i64 2)).set_ 2 (.int .i64 ((j : Int) + 1)))).swap.set_ 0 (.string ⟨#[108, 111, 103]⟩)).set_ 1 (.string ⟨PR.toArray⟩)).set_ 2 (.string ⟨SW.toArray⟩)).set_ 3 (.int .i64 2)).set_ 4 (.int .i64 ((j : Int) + 1))).set_ 5 (.string ⟨#[108, 111, 103]⟩)).set_ 6 (.int .i64 (s : Int))).set_ 7 (.string ⟨(R s).toArray⟩))).swap
        have t0 := hT _ _ _ _ _ zA.drew
        have t2 := hT _ _ _ _ _ zAB.drew
        have t5 := hT _ _ _ _ _ zA
        have t6 := hT _ _ _ _ _ zAB
        obtain ⟨_, _, _, _, _, _⟩ := bk3 yF.blk
        obtain ⟨_, _, _, _, _, _, _, _, _, _, _, _, _, _, _, _⟩ := bk8 yF.tail.blk
        refine wp_region_noPanic ?_
        refine wp_region_held_drew (S := (fun W' => W'.cell? ⟨pn, 0, none⟩ = some (.string ⟨SR.toArray⟩) ∧ W'.cell? ⟨pn, 1, none⟩ = some (.int .i64 2) ∧ W'.cell? ⟨pn, 2, none⟩ = some (.int .i64 ((j : Int) + 1)) ∧ W'.cell? ⟨pv, 0, none⟩ = some (.string ⟨#[108, 111, 103]⟩) ∧ W'.cell? ⟨pv, 1, none⟩ = some (.string ⟨PR.toArray⟩) ∧ W'.cell? ⟨pv, 2, none⟩ = some (.string ⟨SW.toArray⟩) ∧ W'.cell? ⟨pv, 3, none⟩ = some (.int .i64 2) ∧ W'.cell? ⟨pv, 4, none⟩ = some (.int .i64 ((j : Int) + 1)) ∧ W'.cell? ⟨pv, 5, none⟩ = some (.string ⟨#[108, 111, 103]⟩) ∧ W'.cell? ⟨pv, 6, none⟩ = some (.int .i64 (s : Int)) ∧ W'.cell? ⟨pv, 7, none⟩ = some (.string ⟨(R s).toArray⟩))) (by kernel_rfl) ?_ (fun hH0 => ?_)
        ·with_reducible exact s0
        refine tk 0 155 hH0 ?_
        refine tk 1 156 hH0 ?_
        refine tk 2 157 hH0 ?_
        refine rdy [3] ?_
        refine az fun K hK => ?_
        go_simp
        refine hK.out _ _ (by with_reducible exact t0) fun hH1 => ?_
        clear hK K hH0
        try dsimp only
        refine rdy [4] ?_
        refine az fun K hK => ?_
        go_simp
        refine hK.out _ _ (by with_reducible exact t2) fun hH2 => ?_
        clear hK K hH1
        try simp only [pu]
        refine tk 5 11 hH2 ?_
        refine dn ?_ _
        all_goals (refine NoPanic.normal ?_)
        all_goals
         first
          | exact ⟨rfl, rfl, zAB.drew⟩
          | exact ⟨rfl, rfl, zAB⟩
       case k =>
        rintro w32 y32
        have y33 : St w.heap.size w w32 [cellsR (pw) 37 #[.string ⟨#[108, 111, 103]⟩, .string ⟨PR.toArray⟩, .string ⟨SW.toArray⟩, .int .i64 2, .int .i64 ((j + 1 : Nat) : Int), .string ⟨#[108, 111, 103]⟩, .int .i64 (s : Int), .string ⟨(R s).toArray⟩], cellsR (pk) 23 #[.string ⟨SR.toArray⟩, .int .i64 2, .int .i64 ((j + 1 : Nat) : Int)], ownR 32 7 v9 (j + 1) ((Cs ++ [(⟨[108, 111, 103], (s : Int), R s, (j : Int), A1, cA j s, n1, A2, tA j, n2, X, [⟨PW, (j : Int), A5, cX j s, n5, A6, tX j, n6⟩], cc⟩ : CkV)]).flatMap ckC), ownR 9 1 (.slice P1 N c1) N (strs L)] := by
         have := y32.pk [1, 0, 4, 5]
         rw [show Cs.flatMap ckC ++ (#[.string ⟨#[108, 111, 103]⟩, .int .i64 (s : Int), .string ⟨(R s).toArray⟩, .int .i64 (j : Int), .slice A1 (cA j s).length n1, .slice A2 (tA j).length n2, .slice X 1 cc] : Array Value).toList = (Cs ++ [(⟨[108, 111, 103], (s : Int), R s, (j : Int), A1, cA j s, n1, A2, tA j, n2, X, [⟨PW, (j : Int), A5, cX j s, n5, A6, tX j, n6⟩], cc⟩ : CkV)]).flatMap ckC from (by rw [List.flatMap_append, List.flatMap_singleton]; rfl)] at this
         exact this
        have Y33 := Lib.hid y33
        clear y32 y33 yF
        go_wp2
        go_roundw
        case rel => exact ⟨j + 1, s, Cs ++ [(⟨[108, 111, 103], (s : Int), R s, (j : Int), A1, cA j s, n1, A2, tA j, n2, X, [⟨PW, (j : Int), A5, cX j s, n5, A6, tX j, n6⟩], cc⟩ : CkV)], Nat.succ_le_of_lt HQ.out.2.2.1, by go_num, rfl, HQ.out.2.2.2.2.1, (fun x hx => by
         rcases List.mem_append.1 hx with hx | hx
         ·obtain ⟨q, hq, hz, hr⟩ := HQ.out.1 x hx
          exact ⟨q, Nat.le_trans hq HQ.out.2.2.2.1, hz, hr⟩
         ·rw [List.mem_singleton.1 hx]
          exact ⟨s, Nat.le_refl _, rfl, rfl⟩), by (rw [List.length_append, HQ.out.2.1]; rfl), Y33.out⟩
        case measure => have := HQ.out.2.2.1; simp [intOf]; omega
   ·have hjJ : J = j := (Nat.le_antisymm hj (Nat.le_of_not_lt hlt)).symm
    subst hjJ
    clear hlt hj
    have Y := Lib.hid h
    clear h hCs
    go_wp2
    go_ret
    exact ⟨rfl, Y.out.below⟩
end Go.Proofs.YtjjpdnpbhdcpbaaGreat
