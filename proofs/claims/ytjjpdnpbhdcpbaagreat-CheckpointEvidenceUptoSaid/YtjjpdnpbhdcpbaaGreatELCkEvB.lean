/-
  CheckpointEvidence: the walk. Conditions: signatures and lists of bulk at most 2^40.
-/
import Derived.Test.YtjjpdnpbhdcpbaaGreatQCkAw
import Derived.Test.YtjjpdnpbhdcpbaaGreatQCkAwA
import Derived.Test.YtjjpdnpbhdcpbaaGreatQPe
import Derived.Test.YtjjpdnpbhdcpbaaGreatECkR
import Derived.Test.YtjjpdnpbhdcpbaaGreatQPd
import Derived.Test.YtjjpdnpbhdcpbaaGreatQCkL
import Derived.Test.YtjjpdnpbhdcpbaaGreatQCkK
import Derived.Test.YtjjpdnpbhdcpbaaGreatQCkJ
import Derived.Test.YtjjpdnpbhdcpbaaGreatQCkI
import Derived.Test.YtjjpdnpbhdcpbaaGreatQCkH
import Derived.Test.YtjjpdnpbhdcpbaaGreatQCkF
import Derived.Test.YtjjpdnpbhdcpbaaGreatQCkE
import Derived.Test.YtjjpdnpbhdcpbaaGreatQPa
import Derived.Test.YtjjpdnpbhdcpbaaGreatEPa
import Derived.Test.YtjjpdnpbhdcpbaaGreatQBase
import Derived.Test.YtjjpdnpbhdcpbaaGreatQCkC
import Derived.Test.YtjjpdnpbhdcpbaaGreatEPb
import Derived.Test.YtjjpdnpbhdcpbaaGreatQPc
import Derived.Test.YtjjpdnpbhdcpbaaGreatESgP
import Derived.Test.YtjjpdnpbhdcpbaaGreatQCdB
import Derived.Test.YtjjpdnpbhdcpbaaGreatProg
import Derived.Test.YtjjpdnpbhdcpbaaGreatQCdA
import Derived.Laws.DeepNot64
import Derived.Test.YtjjpdnpbhdcpbaaGreatEMkB
import Derived.Test.YtjjpdnpbhdcpbaaGreatQMkB
import Derived.Deep.Strs
import Derived.Maps.OwnSet
import Derived.Test.YtjjpdnpbhdcpbaaGreatQPb
import Derived.Test.YtjjpdnpbhdcpbaaGreatQSgJ
import Derived.Test.YtjjpdnpbhdcpbaaGreatQSgI
import Derived.Test.YtjjpdnpbhdcpbaaGreatQSgH
import Derived.Test.YtjjpdnpbhdcpbaaGreatQSgG
import Derived.Test.YtjjpdnpbhdcpbaaGreatQSgF
import Derived.Test.YtjjpdnpbhdcpbaaGreatQShaB
import Derived.Test.YtjjpdnpbhdcpbaaGreatQShaA
import Derived.Laws.BitsAllLaws
import Derived.BigQuiet
import Derived.BigRegion
import Derived.Deep.RegionHeld3
import Derived.Test.YtjjpdnpbhdcpbaaGreatLayC
import Derived.Test.YtjjpdnpbhdcpbaaGreatLay
import Derived.Laws.CopyRow
import Derived.Laws.IdiomStrings
import Derived.Lib.Bytealg
import Derived.Laws.MakeOwn
import Derived.Test.YtjjpdnpbhdcpbaaGreatLayR
import Derived.Lib.OthersKept
import Derived.Test.YtjjpdnpbhdcpbaaGreatQSgD
import Derived.RangeFuncNested
import Derived.RangeFuncBound
import Derived.RangeFuncCalls
import Derived.RangeFuncLeaves
import Derived.Shelf.Abstract
import Derived.Shelf.RegionOpen
import Derived.OwnWalkIn
import Derived.TacticsInMore
import Derived.LoopNIn
import Derived.LoopIn
import Derived.Lib.FrozenHead2
import Derived.OrdersIn
import Derived.RangeFuncFrom
import Derived.Laws.ResultCell
import Derived.Test.YtjjpdnpbhdcpbaaGreatQCkZ
import Derived.Test.YtjjpdnpbhdcpbaaGreatQCkY
import Derived.Test.YtjjpdnpbhdcpbaaGreatQCkX
import Derived.Test.YtjjpdnpbhdcpbaaGreatERkC
import Derived.Test.YtjjpdnpbhdcpbaaGreatERkD
import Derived.Test.YtjjpdnpbhdcpbaaGreatERkQ
namespace Go.Proofs.YtjjpdnpbhdcpbaaGreat
set_option linter.unusedVariables false
open Go.RowKit Go.Shelf
attribute [local go_sem] Oper.semAt_some
theorem exec_load_row {P : Program} {w : World} {g : Nat} {t0 t : TypeId} {cs : Array Value} {d : TypeDesc} (ρ : Operand → Value) (o : Oper) (x : Operand) (hop : o.op = .load t x) (hx : ρ x = .pointer (some ⟨g, 0, none⟩)) (hb : Blk w g t0 cs) (hu : P.underlying t = some d) (hd : (match d with | .struct _ | .array _ _ => true | _ => false) = true) (hi : (P.info? t).map (·.size) = some cs.size) :
 (execOp ρ o).run P w = .ok (.value (.agg cs)) w := by
 have hl := run_loadVar_row (P := P) w g t0 t cs _ d hb hu hd hi
 unfold execOp
 simp [hop, Instr.loadAt, Instr.sureAddr, hx, hl]
theorem sameE_refl (x y : CkV) (rt : Sg.Str) (P : List Sg.Str) : sameE x y rt P x y rt P = true := by
 unfold sameE
 rw [sameV_strip x x rfl, sameV_strip y y rfl, beq_self_eq_true, decide_eq_true rfl]
 rfl
set_option maxRecDepth 20000 in
set_option maxHeartbeats 8000000 in
theorem ckEvidence_yes (pub : Sg.Str) (x y : CkV) (rt : Sg.Str) (Y : Option Addr) (P : List Sg.Str) (d : Nat) (Z : Option Addr) (L : List Sg.Str) (l : Nat) (w : World) (hx : CkV.ok w x) (hfx : CkV.few x) (hy : CkV.ok w y) (hfy : CkV.few y) (hP : Rd w Y (strs P)) (hd : P.length ≤ d) (hdm : d ≤ maxLen) (hPw : weight P ≤ 1099511627776)
 (hL : Rd w Z (strs L)) (hl : L.length ≤ l) (hlm : l ≤ maxLen) (hLw : weight L ≤ 1099511627776)
 (n1 : pub.length ≤ 200) (n2 : rt.length ≤ 200) (n3 : ckFew x.o x.r x.C x.T x.L = true) (n4 : ckFew y.o y.r y.C y.T y.L = true) (n5 : P.length ≤ 20) (n6 : fewB P = true) (n7 : L.length ≤ 30) (n8 : fewB L = true) :
 Calls Tryz.prog 7 #[.string ⟨pub.toArray⟩, .agg (evA x y rt (.slice Y P.length d)), .slice Z L.length l] w fun e w' => e = .returned (.bool true) ∧ Below w.heap.size w w' := by
 have z1 := bytes_size pub
 have z2 := bytes_size rt
 have hLl : L.length ≤ 1099511627776 := by unfold weight at hLw; omega
 have kC : ∀ (W' : World), Below w.heap.size w W' → Calls Tryz.prog 38 #[.agg (ckA x), .agg (ckA y), .slice Z L.length l] W' (CmpP x y (cmpR x.r x.z y.r y.z L) W') := fun (W' : World) (hb : Below w.heap.size w W') => compare_spec x y Z L l W' (hL.below hb) hLl hl hlm
 have rC : ∀ (W' : World), Below w.heap.size w W' → Calls Tryz.prog 39 #[.agg (ckA x), .agg (ckA y), .slice Z L.length l] W' (CmpP x y (cmpR x.r x.z y.r y.z L) W') := fun (W' : World) (hb : Below w.heap.size w W') => rcompare_spec x y Z L l W' (hL.below hb) hLl hl hlm
 generalize cmpR x.r x.z y.r y.z L = Q at kC rC
 obtain ⟨⟨rr, G⟩, ok⟩ := Q
 unfold CmpP at kC rC
 dsimp only at kC rC
 have hox : ∀ W', Below w.heap.size w W' → CkV.ok W' (if ok = true then x else noCk) := fun W' hb => by
  split
  ·exact hx.below hb
  ·exact noCk_ok _
 have hoy : ∀ W', Below w.heap.size w W' → CkV.ok W' (if ok = true then y else noCk) := fun W' hb => by
  split
  ·exact hy.below hb
  ·exact noCk_ok _
 generalize (if ok = true then x else noCk) = xx at kC rC hox
 generalize (if ok = true then y else noCk) = yy at kC rC hoy
 have kE : ∀ (p5 p6 : Option Addr) (n5 n6 : Nat) (W' : World), Below w.heap.size w W' → Rd W' p5 (strs G) → Rd W' p6 (strs G) → G.length ≤ maxLen → Calls Tryz.prog 42 #[.agg (evA xx yy rr (.slice p5 G.length n5)), .agg (evA xx yy rr (.slice p6 G.length n6))] W' fun e w' => e = .returned (.bool true) ∧ Below W'.heap.size W' w' := fun p5 p6 n5 n6 W' hb h1 h2 hG => by
  have := sameE_spec xx yy rr p5 G n5 xx yy rr p6 G n6 W' (hox W' hb) (hoy W' hb) (hox W' hb) (hoy W' hb) h1 h2 hG hG
  rw [sameE_refl] at this
  exact this
 obtain ⟨o1, z1, r1, i1, A1, C1, a1, B1, T1, b1, X1, L1, c1⟩ := x
 obtain ⟨o2, z2, r2, i2, A2, C2, a2, B2, T2, b2, X2, L2, c2⟩ := y
 obtain ⟨o3, z3, r3, i3, A3, C3, a3, B3, T3, b3, X3, L3, c3⟩ := xx
 obtain ⟨o4, z4, r4, i4, A4, C4, a4, B4, T4, b4, X4, L4, c4⟩ := yy
 obtain ⟨f1, f2, f3, f4⟩ := hfx
 obtain ⟨f5, f6, f7, f8⟩ := hfy
 unfold evA at kE
 unfold evA ckA at kC rC
 unfold evA
 dsimp only at f1 f2 f3 f4 f5 f6 f7 f8 kC rC kE n3 n4 ⊢
 have y0 := (St.nil w).alloc 70 #[.string ⟨o1.toArray⟩, .int .i64 z1, .string ⟨r1.toArray⟩, .int .i64 i1, .slice A1 C1.length a1, .slice B1 T1.length b1, .slice X1 L1.length c1, .string ⟨o2.toArray⟩, .int .i64 z2, .string ⟨r2.toArray⟩, .int .i64 i2, .slice A2 C2.length a2, .slice B2 T2.length b2, .slice X2 L2.length c2, .string ⟨rt.toArray⟩, .slice Y P.length d]
 have Y0 := Lib.hid y0
 clear y0
 have kF1 := fun (W' : World) (hb : Below w.heap.size w W') => ckfew_spec o1 z1 r1 i1 A1 B1 C1 T1 a1 b1 X1 L1 c1 W' (hx.below hb).2.2.2.2.2.2.1 f1 (hx.below hb).1 (hx.below hb).2.1 f2 f3 hx.2.2.1 hx.2.2.2.1 hx.2.2.2.2.1 hx.2.2.2.2.2.1 f4
 have kF2 := fun (W' : World) (hb : Below w.heap.size w W') => ckfew_spec o2 z2 r2 i2 A2 B2 C2 T2 a2 b2 X2 L2 c2 W' (hy.below hb).2.2.2.2.2.2.1 f5 (hy.below hb).1 (hy.below hb).2.1 f6 f7 hy.2.2.1 hy.2.2.2.1 hy.2.2.2.2.1 hy.2.2.2.2.2.1 f8
 have kP := fun (W' : World) (hb : Below w.heap.size w W') => mfew_spec Y P d W' (hP.below hb) (by omega)
 have kL := fun (W' : World) (hb : Below w.heap.size w W') => mfew_spec Z L l W' (hL.below hb) (by omega)
 have kK := fun (W' : World) (hb : Below w.heap.size w W') => check_spec pub o1 z1 r1 i1 A1 C1 a1 B1 T1 b1 X1 L1.length c1 o2 z2 r2 i2 A2 C2 a2 B2 T2 b2 X2 L2.length c2 rt Y P d W' (hx.below hb).1 (hx.below hb).2.1 hx.2.2.1 hx.2.2.2.1 hx.2.2.2.2.1 hx.2.2.2.2.2.1 (hy.below hb).1 (hy.below hb).2.1 hy.2.2.1 hy.2.2.2.1 hy.2.2.2.2.1 hy.2.2.2.2.2.1 (hP.below hb) hd hdm
 have rK := fun (h4 : P.length ≤ 4096) (W' : World) (hb : Below w.heap.size w W') => rcheck_spec pub o1 z1 r1 i1 A1 C1 a1 B1 T1 b1 X1 L1.length c1 o2 z2 r2 i2 A2 C2 a2 B2 T2 b2 X2 L2.length c2 rt Y P d W' (hx.below hb).1 (hx.below hb).2.1 hx.2.2.1 hx.2.2.2.1 hx.2.2.2.2.1 hx.2.2.2.2.2.1 (hy.below hb).1 (hy.below hb).2.1 hy.2.2.1 hy.2.2.2.1 hy.2.2.2.2.1 hy.2.2.2.2.2.1 (hP.below hb) hd hdm h4
 rw [n3] at kF1
 rw [n4] at kF2
 rw [n6] at kP
 rw [n8] at kL
 generalize chkB (ckB 4 pub o1 z1 r1 i1 C1 T1) (ckB 4 pub o2 z2 r2 i2 C2 T2) o1 z1 r1 o2 z2 r2 rt P = v at kK rK
 have pl : (P.length : Int) ≤ (d : Int) := by omega
 have ll : (L.length : Int) ≤ (l : Int) := by omega
 clear hx hy f1 f2 f3 f4 f5 f6 f7 f8 hP hL hd hl hdm hlm hPw hLw hLl hox hoy
 have h1' : ¬ ((200 : Int) < (pub.length : Int)) := by omega
 have h2' : ¬ ((200 : Int) < (rt.length : Int)) := by omega
 have h5' : ¬ ((20 : Int) < (P.length : Int)) := by omega
 have h7' : ¬ ((30 : Int) < (L.length : Int)) := by omega
 have rK := rK (by omega)
 clear n1 n2 n3 n4 n5 n6 n7 n8
 go_enter Tryz.func7, Tryz.ntmps7
 go_wp2_with fail
 refine (awake_ck _).mono ?_
 rintro e w1 ⟨rfl, bw⟩
 have y1 := Y0.out.under bw
 clear bw
 have ee0 := y1.blk.cell 0
 have ee1 := y1.blk.cell 1
 have ee2 := y1.blk.cell 2
 have ee3 := y1.blk.cell 3
 have ee4 := y1.blk.cell 4
 have ee5 := y1.blk.cell 5
 have ee6 := y1.blk.cell 6
 have ee7 := y1.blk.cell 7
 have ee8 := y1.blk.cell 8
 have ee9 := y1.blk.cell 9
 have ee10 := y1.blk.cell 10
 have ee11 := y1.blk.cell 11
 have ee12 := y1.blk.cell 12
 have ee13 := y1.blk.cell 13
 have ee14 := y1.blk.cell 14
 have ee15 := y1.blk.cell 15
 go_wp2_with fail
 refine (kF1 _ y1.below).mono ?_
 rintro e w2 ⟨rfl, bw⟩
 have y2 := y1.under bw
 clear kF1 bw y1 ee0 ee1 ee2 ee3 ee4 ee5 ee6 ee7 ee8 ee9 ee10 ee11 ee12 ee13 ee14 ee15
 have ee0 := y2.blk.cell 0
 have ee1 := y2.blk.cell 1
 have ee2 := y2.blk.cell 2
 have ee3 := y2.blk.cell 3
 have ee4 := y2.blk.cell 4
 have ee5 := y2.blk.cell 5
 have ee6 := y2.blk.cell 6
 have ee7 := y2.blk.cell 7
 have ee8 := y2.blk.cell 8
 have ee9 := y2.blk.cell 9
 have ee10 := y2.blk.cell 10
 have ee11 := y2.blk.cell 11
 have ee12 := y2.blk.cell 12
 have ee13 := y2.blk.cell 13
 have ee14 := y2.blk.cell 14
 have ee15 := y2.blk.cell 15
 go_wp2_with fail
 refine (kF2 _ y2.below).mono ?_
 rintro e w3 ⟨rfl, bw⟩
 have y3 := y2.under bw
 clear kF2 bw y2 ee0 ee1 ee2 ee3 ee4 ee5 ee6 ee7 ee8 ee9 ee10 ee11 ee12 ee13 ee14 ee15
 have ee0 := y3.blk.cell 0
 have ee1 := y3.blk.cell 1
 have ee2 := y3.blk.cell 2
 have ee3 := y3.blk.cell 3
 have ee4 := y3.blk.cell 4
 have ee5 := y3.blk.cell 5
 have ee6 := y3.blk.cell 6
 have ee7 := y3.blk.cell 7
 have ee8 := y3.blk.cell 8
 have ee9 := y3.blk.cell 9
 have ee10 := y3.blk.cell 10
 have ee11 := y3.blk.cell 11
 have ee12 := y3.blk.cell 12
 have ee13 := y3.blk.cell 13
 have ee14 := y3.blk.cell 14
 have ee15 := y3.blk.cell 15
 go_wp2_with fail
 refine (kP _ y3.below).mono ?_
 rintro e w4 ⟨rfl, rfl⟩
 clear kP
 go_wp2_with fail
 refine (kL _ y3.below).mono ?_
 rintro e w4 ⟨rfl, rfl⟩
 clear kL
 go_wp2_with fail
 refine (kC _ y3.below).mono ?_
 rintro e w5 ⟨pv, rfl, t5⟩
 obtain ⟨p5, n5, rfl, u51, u52⟩ := own_form t5.own
 have U5 := Lib.hid (And.intro u51 u52)
 have y5 := (y3.join t5).alloc 70 #[.string ⟨o3.toArray⟩, .int .i64 z3, .string ⟨r3.toArray⟩, .int .i64 i3, .slice A3 C3.length a3, .slice B3 T3.length b3, .slice X3 L3.length c3, .string ⟨o4.toArray⟩, .int .i64 z4, .string ⟨r4.toArray⟩, .int .i64 i4, .slice A4 C4.length a4, .slice B4 T4.length b4, .slice X4 L4.length c4, .string ⟨rr.toArray⟩, .slice p5 G.length n5]
 obtain ⟨g5, hg5⟩ : ∃ q, w5.heap.size = q := ⟨_, rfl⟩
 rw [hg5] at y5
 obtain ⟨w5x, hw5, y5⟩ : ∃ q, w5.alloc (.cells #[.string ⟨o3.toArray⟩, .int .i64 z3, .string ⟨r3.toArray⟩, .int .i64 i3, .slice A3 C3.length a3, .slice B3 T3.length b3, .slice X3 L3.length c3, .string ⟨o4.toArray⟩, .int .i64 z4, .string ⟨r4.toArray⟩, .int .i64 i4, .slice A4 C4.length a4, .slice B4 T4.length b4, .slice X4 L4.length c4, .string ⟨rr.toArray⟩, .slice p5 G.length n5] 70) = q ∧ St w.heap.size w q _ := ⟨_, rfl, y5⟩
 clear kC t5 y3 u51 u52 ee0 ee1 ee2 ee3 ee4 ee5 ee6 ee7 ee8 ee9 ee10 ee11 ee12 ee13 ee14 ee15
 have ee0 := y5.tail.tail.blk.cell 0
 have ee1 := y5.tail.tail.blk.cell 1
 have ee2 := y5.tail.tail.blk.cell 2
 have ee3 := y5.tail.tail.blk.cell 3
 have ee4 := y5.tail.tail.blk.cell 4
 have ee5 := y5.tail.tail.blk.cell 5
 have ee6 := y5.tail.tail.blk.cell 6
 have ee7 := y5.tail.tail.blk.cell 7
 have ee8 := y5.tail.tail.blk.cell 8
 have ee9 := y5.tail.tail.blk.cell 9
 have ee10 := y5.tail.tail.blk.cell 10
 have ee11 := y5.tail.tail.blk.cell 11
 have ee12 := y5.tail.tail.blk.cell 12
 have ee13 := y5.tail.tail.blk.cell 13
 have ee14 := y5.tail.tail.blk.cell 14
 have ee15 := y5.tail.tail.blk.cell 15
 go_wp2_with fail
 refine (rC _ y5.below).mono ?_
 rintro e w6 ⟨pv, rfl, t6⟩
 obtain ⟨p6, n6, rfl, u61, u62⟩ := own_form t6.own
 have U6 := Lib.hid (And.intro u61 u62)
 have y6 := (y5.join t6).alloc 70 #[.string ⟨o3.toArray⟩, .int .i64 z3, .string ⟨r3.toArray⟩, .int .i64 i3, .slice A3 C3.length a3, .slice B3 T3.length b3, .slice X3 L3.length c3, .string ⟨o4.toArray⟩, .int .i64 z4, .string ⟨r4.toArray⟩, .int .i64 i4, .slice A4 C4.length a4, .slice B4 T4.length b4, .slice X4 L4.length c4, .string ⟨rr.toArray⟩, .slice p6 G.length n6]
 obtain ⟨g6, hg6⟩ : ∃ q, w6.heap.size = q := ⟨_, rfl⟩
 rw [hg6] at y6
 obtain ⟨w6x, hw6, y6⟩ : ∃ q, w6.alloc (.cells #[.string ⟨o3.toArray⟩, .int .i64 z3, .string ⟨r3.toArray⟩, .int .i64 i3, .slice A3 C3.length a3, .slice B3 T3.length b3, .slice X3 L3.length c3, .string ⟨o4.toArray⟩, .int .i64 z4, .string ⟨r4.toArray⟩, .int .i64 i4, .slice A4 C4.length a4, .slice B4 T4.length b4, .slice X4 L4.length c4, .string ⟨rr.toArray⟩, .slice p6 G.length n6] 70) = q ∧ St w.heap.size w q _ := ⟨_, rfl, y6⟩
 clear rC t6 y5 u61 u62 ee0 ee1 ee2 ee3 ee4 ee5 ee6 ee7 ee8 ee9 ee10 ee11 ee12 ee13 ee14 ee15
 go_wp2_with fail
 clear hw5 hg5 hw6 hg6
 have hS : ∀ W', St w.heap.size w W' [cellsR g6 70 #[.string ⟨o3.toArray⟩, .int .i64 z3, .string ⟨r3.toArray⟩, .int .i64 i3, .slice A3 C3.length a3, .slice B3 T3.length b3, .slice X3 L3.length c3, .string ⟨o4.toArray⟩, .int .i64 z4, .string ⟨r4.toArray⟩, .int .i64 i4, .slice A4 C4.length a4, .slice B4 T4.length b4, .slice X4 L4.length c4, .string ⟨rr.toArray⟩, .slice p6 G.length n6], ownR 9 1 (.slice p6 G.length n6) G.length (strs G), cellsR g5 70 #[.string ⟨o3.toArray⟩, .int .i64 z3, .string ⟨r3.toArray⟩, .int .i64 i3, .slice A3 C3.length a3, .slice B3 T3.length b3, .slice X3 L3.length c3, .string ⟨o4.toArray⟩, .int .i64 z4, .string ⟨r4.toArray⟩, .int .i64 i4, .slice A4 C4.length a4, .slice B4 T4.length b4, .slice X4 L4.length c4, .string ⟨rr.toArray⟩, .slice p5 G.length n5], ownR 9 1 (.slice p5 G.length n5) G.length (strs G), cellsR w.heap.size 70 #[.string ⟨o1.toArray⟩, .int .i64 z1, .string ⟨r1.toArray⟩, .int .i64 i1, .slice A1 C1.length a1, .slice B1 T1.length b1, .slice X1 L1.length c1, .string ⟨o2.toArray⟩, .int .i64 z2, .string ⟨r2.toArray⟩, .int .i64 i2, .slice A2 C2.length a2, .slice B2 T2.length b2, .slice X2 L2.length c2, .string ⟨rt.toArray⟩, .slice Y P.length d]] → (Blk W' w.heap.size 70 #[.string ⟨o1.toArray⟩, .int .i64 z1, .string ⟨r1.toArray⟩, .int .i64 i1, .slice A1 C1.length a1, .slice B1 T1.length b1, .slice X1 L1.length c1, .string ⟨o2.toArray⟩, .int .i64 z2, .string ⟨r2.toArray⟩, .int .i64 i2, .slice A2 C2.length a2, .slice B2 T2.length b2, .slice X2 L2.length c2, .string ⟨rt.toArray⟩, .slice Y P.length d] ∧ Blk W' g5 70 #[.string ⟨o3.toArray⟩, .int .i64 z3, .string ⟨r3.toArray⟩, .int .i64 i3, .slice A3 C3.length a3, .slice B3 T3.length b3, .slice X3 L3.length c3, .string ⟨o4.toArray⟩, .int .i64 z4, .string ⟨r4.toArray⟩, .int .i64 i4, .slice A4 C4.length a4, .slice B4 T4.length b4, .slice X4 L4.length c4, .string ⟨rr.toArray⟩, .slice p5 G.length n5] ∧ Blk W' g6 70 #[.string ⟨o3.toArray⟩, .int .i64 z3, .string ⟨r3.toArray⟩, .int .i64 i3, .slice A3 C3.length a3, .slice B3 T3.length b3, .slice X3 L3.length c3, .string ⟨o4.toArray⟩, .int .i64 z4, .string ⟨r4.toArray⟩, .int .i64 i4, .slice A4 C4.length a4, .slice B4 T4.length b4, .slice X4 L4.length c4, .string ⟨rr.toArray⟩, .slice p6 G.length n6]) := fun W' hh => ⟨hh.tail.tail.tail.tail.blk, hh.tail.tail.blk, hh.blk⟩
 have yd := y6.drew
 have s0 := hS _ yd
 clear y6
 refine wp_region_noPanic ?_
 refine wp_region_held_drew (S := (fun W' => Blk W' w.heap.size 70 #[.string ⟨o1.toArray⟩, .int .i64 z1, .string ⟨r1.toArray⟩, .int .i64 i1, .slice A1 C1.length a1, .slice B1 T1.length b1, .slice X1 L1.length c1, .string ⟨o2.toArray⟩, .int .i64 z2, .string ⟨r2.toArray⟩, .int .i64 i2, .slice A2 C2.length a2, .slice B2 T2.length b2, .slice X2 L2.length c2, .string ⟨rt.toArray⟩, .slice Y P.length d] ∧ Blk W' g5 70 #[.string ⟨o3.toArray⟩, .int .i64 z3, .string ⟨r3.toArray⟩, .int .i64 i3, .slice A3 C3.length a3, .slice B3 T3.length b3, .slice X3 L3.length c3, .string ⟨o4.toArray⟩, .int .i64 z4, .string ⟨r4.toArray⟩, .int .i64 i4, .slice A4 C4.length a4, .slice B4 T4.length b4, .slice X4 L4.length c4, .string ⟨rr.toArray⟩, .slice p5 G.length n5] ∧ Blk W' g6 70 #[.string ⟨o3.toArray⟩, .int .i64 z3, .string ⟨r3.toArray⟩, .int .i64 i3, .slice A3 C3.length a3, .slice B3 T3.length b3, .slice X3 L3.length c3, .string ⟨o4.toArray⟩, .int .i64 z4, .string ⟨r4.toArray⟩, .int .i64 i4, .slice A4 C4.length a4, .slice B4 T4.length b4, .slice X4 L4.length c4, .string ⟨rr.toArray⟩, .slice p6 G.length n6])) (by kernel_rfl) ?_ (fun hH0 => ?_)
 ·(first
    | with_reducible exact s0
    | with_reducible exact s1
    | with_reducible exact s2
    | with_reducible exact s3
    | fail)
 refine wpAnyH_take (i := 0) (oi := ⟨some 74, _, _, _, _, _⟩) (v := ?_) rfl (by kernel_rfl) (by kernel_rfl) (by kernel_rfl) (fun _ _ _ h => h) (Or.inl ⟨by rfl, ?_⟩) hH0 ?_
 rotate_left 1
 ·intro w hSw; clear hSw; go_simp; with_reducible rfl
 try simp only [pu]
 refine wpAnyH_take (i := 1) (oi := ⟨some 75, _, _, _, _, _⟩) (v := ?_) rfl (by kernel_rfl) (by kernel_rfl) (by kernel_rfl) (fun _ _ _ h => h) (Or.inl ⟨by rfl, ?_⟩) hH0 ?_
 rotate_left 1
 ·intro w hSw; have hl := fun ρ (o : Oper) (x : Operand) (h1 : o.op = .load 70 x) (h2 : ρ x = .pointer (some ⟨_, 0, none⟩)) => exec_load_row ρ o x h1 h2 hSw.1 Tryz.underlying70 rfl size_ev; refine hl _ _ (.tmp 4) ?_ ?_ <;> rfl
 try simp only [pu]
 refine wpAnyH_take (i := 3) (oi := ⟨some 77, _, _, _, _, _⟩) (v := ?_) rfl (by kernel_rfl) (by kernel_rfl) (by kernel_rfl) (fun _ _ _ h => h) (Or.inl ⟨by rfl, ?_⟩) hH0 ?_
 rotate_left 1
 ·intro w hSw; clear hSw; go_simp; with_reducible rfl
 try simp only [pu]
 refine wpAnyH_take (i := 4) (oi := ⟨some 78, _, _, _, _, _⟩) (v := ?_) rfl (by kernel_rfl) (by kernel_rfl) (by kernel_rfl) (fun _ _ _ h => h) (Or.inl ⟨by rfl, ?_⟩) hH0 ?_
 rotate_left 1
 ·intro w hSw; have hl := fun ρ (o : Oper) (x : Operand) (h1 : o.op = .load 70 x) (h2 : ρ x = .pointer (some ⟨_, 0, none⟩)) => exec_load_row ρ o x h1 h2 hSw.1 Tryz.underlying70 rfl size_ev; refine hl _ _ (.tmp 4) ?_ ?_ <;> rfl
 try simp only [pu]
 refine rdy [2] ?_
 refine an 76 fun K hK => ?_
 go_simp; (first
  | (with_reducible refine (kK _ yd.below).mono ?_
     rintro e v0 ⟨rfl, bb0⟩
     have ya := yd.under bb0
     have s1 := hS _ ya)
  | (with_reducible refine (rK _ ya.below).mono ?_
     rintro e v1 ⟨rfl, bb1⟩
     have yb := ya.under bb1
     have s2 := hS _ yb)
  | (with_reducible refine (kE _ _ _ _ _ yb.below (Rd.of_own yb.tail.tail.tail.own) (Rd.of_own yb.tail.own) (Nat.le_trans U5.out.1 U5.out.2)).mono ?_
     rintro e v2 ⟨rfl, bb2⟩
     have yc := yb.under bb2
     have s3 := hS _ yc)
  | fail); go_wp2_with fail
 refine hK.out _ _ ?_ (fun hH1 => ?_)
 ·(first
    | with_reducible exact s0
    | with_reducible exact s1
    | with_reducible exact s2
    | with_reducible exact s3
    | fail)
 clear hK K hH0
 try simp only [pu]
 refine rdy [5] ?_
 refine an 79 fun K hK => ?_
 go_simp; (first
  | (with_reducible refine (kK _ yd.below).mono ?_
     rintro e v0 ⟨rfl, bb0⟩
     have ya := yd.under bb0
     have s1 := hS _ ya)
  | (with_reducible refine (rK _ ya.below).mono ?_
     rintro e v1 ⟨rfl, bb1⟩
     have yb := ya.under bb1
     have s2 := hS _ yb)
  | (with_reducible refine (kE _ _ _ _ _ yb.below (Rd.of_own yb.tail.tail.tail.own) (Rd.of_own yb.tail.own) (Nat.le_trans U5.out.1 U5.out.2)).mono ?_
     rintro e v2 ⟨rfl, bb2⟩
     have yc := yb.under bb2
     have s3 := hS _ yc)
  | fail); go_wp2_with fail
 refine hK.out _ _ ?_ (fun hH2 => ?_)
 ·(first
    | with_reducible exact s0
    | with_reducible exact s1
    | with_reducible exact s2
    | with_reducible exact s3
    | fail)
 clear hK K hH1
 try simp only [pu]
 refine wpAnyH_take (i := 6) (oi := ⟨some 80, _, _, _, _, _⟩) (v := ?_) rfl (by kernel_rfl) (by kernel_rfl) (by kernel_rfl) (fun _ _ _ h => h) (Or.inl ⟨by rfl, ?_⟩) hH2 ?_
 rotate_left 1
 ·intro w hSw; clear hSw; go_simp; with_reducible rfl
 try simp only [pu]
 refine wpAnyH_take (i := 7) (oi := ⟨some 81, _, _, _, _, _⟩) (v := ?_) rfl (by kernel_rfl) (by kernel_rfl) (by kernel_rfl) (fun _ _ _ h => h) (Or.inl ⟨by rfl, ?_⟩) hH2 ?_
 rotate_left 1
 ·intro w hSw; clear hSw; go_simp; with_reducible rfl
 try simp only [pu]
 refine wpAnyH_take (i := 8) (oi := ⟨some 82, _, _, _, _, _⟩) (v := ?_) rfl (by kernel_rfl) (by kernel_rfl) (by kernel_rfl) (fun _ _ _ h => h) (Or.inl ⟨by rfl, ?_⟩) hH2 ?_
 rotate_left 1
 ·intro w hSw; clear hSw; go_simp; with_reducible rfl
 try simp only [pu]
 refine wpAnyH_take (i := 9) (oi := ⟨some 83, _, _, _, _, _⟩) (v := ?_) rfl (by kernel_rfl) (by kernel_rfl) (by kernel_rfl) (fun _ _ _ h => h) (Or.inl ⟨by rfl, ?_⟩) hH2 ?_
 rotate_left 1
 ·intro w hSw; clear hSw; go_simp; with_reducible rfl
 try simp only [pu]
 refine wpAnyH_take (i := 10) (oi := ⟨some 84, _, _, _, _, _⟩) (v := ?_) rfl (by kernel_rfl) (by kernel_rfl) (by kernel_rfl) (fun _ _ _ h => h) (Or.inl ⟨by rfl, ?_⟩) hH2 ?_
 rotate_left 1
 ·intro w hSw; clear hSw; go_simp; with_reducible rfl
 try simp only [pu]
 refine wpAnyH_take (i := 11) (oi := ⟨some 85, _, _, _, _, _⟩) (v := ?_) rfl (by kernel_rfl) (by kernel_rfl) (by kernel_rfl) (fun _ _ _ h => h) (Or.inl ⟨by rfl, ?_⟩) hH2 ?_
 rotate_left 1
 ·intro w hSw; clear hSw; go_simp; with_reducible rfl
 try simp only [pu]
 refine wpAnyH_take (i := 12) (oi := ⟨some 86, _, _, _, _, _⟩) (v := ?_) rfl (by kernel_rfl) (by kernel_rfl) (by kernel_rfl) (fun _ _ _ h => h) (Or.inl ⟨by rfl, ?_⟩) hH2 ?_
 rotate_left 1
 ·intro w hSw; clear hSw; go_simp; with_reducible rfl
 try simp only [pu]
 refine wpAnyH_take (i := 13) (oi := ⟨some 87, _, _, _, _, _⟩) (v := ?_) rfl (by kernel_rfl) (by kernel_rfl) (by kernel_rfl) (fun _ _ _ h => h) (Or.inl ⟨by rfl, ?_⟩) hH2 ?_
 rotate_left 1
 ·intro w hSw; have hl := fun ρ (o : Oper) (x : Operand) (h1 : o.op = .load 70 x) (h2 : ρ x = .pointer (some ⟨_, 0, none⟩)) => exec_load_row ρ o x h1 h2 hSw.2.1 Tryz.underlying70 rfl size_ev; refine hl _ _ (.tmp 7) ?_ ?_ <;> rfl
 try simp only [pu]
 refine wpAnyH_take (i := 14) (oi := ⟨some 88, _, _, _, _, _⟩) (v := ?_) rfl (by kernel_rfl) (by kernel_rfl) (by kernel_rfl) (fun _ _ _ h => h) (Or.inl ⟨by rfl, ?_⟩) hH2 ?_
 rotate_left 1
 ·intro w hSw; have hl := fun ρ (o : Oper) (x : Operand) (h1 : o.op = .load 70 x) (h2 : ρ x = .pointer (some ⟨_, 0, none⟩)) => exec_load_row ρ o x h1 h2 hSw.2.2 Tryz.underlying70 rfl size_ev; refine hl _ _ (.tmp 9) ?_ ?_ <;> rfl
 try simp only [pu]
 refine rdy [15] ?_
 refine an 89 fun K hK => ?_
 go_simp; (first
  | (with_reducible refine (kK _ yd.below).mono ?_
     rintro e v0 ⟨rfl, bb0⟩
     have ya := yd.under bb0
     have s1 := hS _ ya)
  | (with_reducible refine (rK _ ya.below).mono ?_
     rintro e v1 ⟨rfl, bb1⟩
     have yb := ya.under bb1
     have s2 := hS _ yb)
  | (with_reducible refine (kE _ _ _ _ _ yb.below (Rd.of_own yb.tail.tail.tail.own) (Rd.of_own yb.tail.own) (Nat.le_trans U5.out.1 U5.out.2)).mono ?_
     rintro e v2 ⟨rfl, bb2⟩
     have yc := yb.under bb2
     have s3 := hS _ yc)
  | fail); go_wp2_with fail
 refine hK.out _ _ ?_ (fun hH3 => ?_)
 ·(first
    | with_reducible exact s0
    | with_reducible exact s1
    | with_reducible exact s2
    | with_reducible exact s3
    | fail)
 clear hK K hH2
 try simp only [pu]
 refine wpAnyH_take (i := 16) (oi := ⟨some 90, _, _, _, _, _⟩) (v := ?_) rfl (by kernel_rfl) (by kernel_rfl) (by kernel_rfl) (fun _ _ _ h => h) (Or.inl ⟨by rfl, ?_⟩) hH3 ?_
 rotate_left 1
 ·intro w hSw; clear hSw; go_simp; with_reducible rfl
 try simp only [pu]
 refine wpAnyH_take (i := 17) (oi := ⟨some 6, _, _, _, _, _⟩) (v := ?_) rfl (by kernel_rfl) (by kernel_rfl) (by kernel_rfl) (fun _ _ _ h => h) (Or.inl ⟨by rfl, ?_⟩) hH3 ?_
 rotate_left 1
 ·intro w hSw; clear hSw; go_simp; with_reducible rfl
 try simp only [pu]
 refine dn ?_ _
 all_goals (refine NoPanic.normal ?_)
 all_goals
  have YC := Lib.hid yc
  clear yc ya yb yd hS
  go_wp2
  go_ret
  exact ⟨rfl, YC.out.below⟩
end Go.Proofs.YtjjpdnpbhdcpbaaGreat
