/-
  The walk of the example that each statement on checkpoints checks first, over the contracts of what it calls. Conditions: none.
-/
import Derived.Test.YtjjpdnpbhdcpbaaGreatQPe
import Derived.Test.YtjjpdnpbhdcpbaaGreatQCkZ
namespace Go.Proofs.YtjjpdnpbhdcpbaaGreat
set_option linter.unusedVariables false
open Go.RowKit Go.Shelf
attribute [local go_sem] Oper.semAt_some
theorem rd_strs3 {W : World} {g : Nat} {t : TypeId} {a b c : Sg.Str} (h : Blk W g t #[.string ⟨a.toArray⟩, .string ⟨b.toArray⟩, .string ⟨c.toArray⟩]) : Rd W (some ⟨g, 0, none⟩) (strs [a, b, c]) := by
 refine .inr ⟨g, 0, rfl, fun j hj => ?_⟩
 rw [Nat.zero_add]
 refine (h.cell j).trans ?_
 match j, hj with
 | 0, _ => rfl
 | 1, _ => rfl
 | 2, _ => rfl
theorem rd_strs3l {W : World} {g : Nat} {t : TypeId} {a b c : Sg.Str} (h : Blk W g t #[.string ⟨a.toArray⟩, .string ⟨b.toArray⟩, .string ⟨c.toArray⟩]) : Rd W (some ⟨g, 2, none⟩) (strs [c]) := by
 refine .inr ⟨g, 2, rfl, fun j hj => ?_⟩
 match j, hj with
 | 0, _ => exact h.cell 2
theorem region_viaV {P : Program} {c : Code} {Q : Exit → Act → World → Prop} {a : Act} {w : World} {α β : Type} (S : α → β → World → Prop) {F : α → β → Act}
 (h : c.wp P (fun e a' w' => e = Exit.normal ∧ ∃ x1 x2, a' = F x1 x2 ∧ S x1 x2 w') a w) (k : ∀ x1 x2 w', S x1 x2 w' → Q Exit.normal (F x1 x2) w') : c.wp P Q a w :=
 Code.wp_mono (fun e a w hr => by obtain ⟨rfl, x1, x2, rfl, hs⟩ := hr; exact k _ _ _ hs) h
set_option maxRecDepth 20000 in
set_option maxHeartbeats 16000000 in
theorem awake_walk (la lb lc SR SW PR PW R0 R2 R3 data : Sg.Str) (cA tA cB tB cX tX cY tY cR tR : List Sg.Str)
 (k97 : ∀ W, Calls Tryz.prog 50 #[.string ⟨#[97]⟩] W (fun e w' => e = .returned (.string ⟨la.toArray⟩) ∧ Below W.heap.size W w'))
 (k98 : ∀ W, Calls Tryz.prog 50 #[.string ⟨#[98]⟩] W (fun e w' => e = .returned (.string ⟨lb.toArray⟩) ∧ Below W.heap.size W w'))
 (k99 : ∀ W, Calls Tryz.prog 50 #[.string ⟨#[99]⟩] W (fun e w' => e = .returned (.string ⟨lc.toArray⟩) ∧ Below W.heap.size W w'))
 (kr : ∀ W, Calls Tryz.prog 48 #[.int .u8 114] W (fun e w' => e = .returned (.agg #[.string ⟨SR.toArray⟩, .int .i64 1, .int .i64 0]) ∧ Below W.heap.size W w'))
 (kw : ∀ W, Calls Tryz.prog 48 #[.int .u8 119] W (fun e w' => e = .returned (.agg #[.string ⟨SW.toArray⟩, .int .i64 1, .int .i64 0]) ∧ Below W.heap.size W w'))
 (kpub : ∀ W, Calls Tryz.prog 44 #[.agg #[.string ⟨SR.toArray⟩, .int .i64 1, .int .i64 0]] W (fun e w' => e = .returned (.tuple #[.string ⟨PR.toArray⟩, .int .i64 0]) ∧ Below W.heap.size W w'))
 (kr2 : ∀ W c, Rd W c (strs [la, lb, lc]) → Calls Tryz.prog 46 #[.slice c 2 3] W (fun e w' => e = .returned (.string ⟨R2.toArray⟩) ∧ Below W.heap.size W w'))
 (kr3 : ∀ W c, Rd W c (strs [la, lb, lc]) → Calls Tryz.prog 46 #[.slice c 3 3] W (fun e w' => e = .returned (.string ⟨R3.toArray⟩) ∧ Below W.heap.size W w'))
 (ks1 : ∀ W, Calls Tryz.prog 12 #[.agg #[.string ⟨SR.toArray⟩, .int .i64 1, .int .i64 0], .agg #[.string ⟨#[108, 111, 103]⟩, .int .i64 2, .string ⟨R2.toArray⟩]] W (fun e w' => ∃ a b, e = .returned (.tuple #[.agg #[.string ⟨#[108, 111, 103]⟩, .int .i64 2, .string ⟨R2.toArray⟩, .int .i64 0, a, b, .slice none 0 0], .agg #[.string ⟨SR.toArray⟩, .int .i64 1, .int .i64 1], .int .i64 0]) ∧ St W.heap.size W w' [ownR 9 1 a cA.length (strs cA), ownR 9 1 b tA.length (strs tA)]))
 (ks2 : ∀ W, Calls Tryz.prog 12 #[.agg #[.string ⟨SR.toArray⟩, .int .i64 1, .int .i64 1], .agg #[.string ⟨#[108, 111, 103]⟩, .int .i64 3, .string ⟨R3.toArray⟩]] W (fun e w' => ∃ a b, e = .returned (.tuple #[.agg #[.string ⟨#[108, 111, 103]⟩, .int .i64 3, .string ⟨R3.toArray⟩, .int .i64 1, a, b, .slice none 0 0], .agg #[.string ⟨SR.toArray⟩, .int .i64 1, .int .i64 2], .int .i64 0]) ∧ St W.heap.size W w' [ownR 9 1 a cB.length (strs cB), ownR 9 1 b tB.length (strs tB)]))
 (knw : ∀ W, Calls Tryz.prog 14 #[.string ⟨#[108, 111, 103]⟩, .string ⟨PR.toArray⟩, .agg #[.string ⟨SW.toArray⟩, .int .i64 1, .int .i64 0]] W (fun e w' => e = .returned (.tuple #[.agg #[.string ⟨#[108, 111, 103]⟩, .string ⟨PR.toArray⟩, .string ⟨SW.toArray⟩, .int .i64 1, .int .i64 0, .string ⟨#[108, 111, 103]⟩, .int .i64 0, .string ⟨R0.toArray⟩], .int .i64 0]) ∧ Below W.heap.size W w'))
 (kva : ∀ W A1 A2 n1 n2, Rd W A1 (strs cA) → Rd W A2 (strs tA) → cA.length ≤ n1 → n1 ≤ maxLen → tA.length ≤ n2 → n2 ≤ maxLen → Calls Tryz.prog 26 #[.string ⟨PR.toArray⟩, .agg #[.string ⟨#[108, 111, 103]⟩, .int .i64 2, .string ⟨R2.toArray⟩, .int .i64 0, .slice A1 cA.length n1, .slice A2 tA.length n2, .slice none 0 0]] W (fun e w' => e = .returned (.bool true) ∧ Below W.heap.size W w'))
 (kvn : ∀ W A1 A2 n1 n2, Rd W A1 (strs cA) → Rd W A2 (strs tA) → cA.length ≤ n1 → n1 ≤ maxLen → tA.length ≤ n2 → n2 ≤ maxLen → Calls Tryz.prog 26 #[.string ⟨#[]⟩, .agg #[.string ⟨#[108, 111, 103]⟩, .int .i64 2, .string ⟨R2.toArray⟩, .int .i64 0, .slice A1 cA.length n1, .slice A2 tA.length n2, .slice none 0 0]] W (fun e w' => e = .returned (.bool false) ∧ Below W.heap.size W w'))
 (ko1 : ∀ W A1 A2 n1 n2, Rd W A1 (strs cA) → Rd W A2 (strs tA) → cA.length ≤ n1 → n1 ≤ maxLen → tA.length ≤ n2 → n2 ≤ maxLen → Calls Tryz.prog 35 #[.agg #[.string ⟨#[108, 111, 103]⟩, .string ⟨PR.toArray⟩, .string ⟨SW.toArray⟩, .int .i64 1, .int .i64 0, .string ⟨#[108, 111, 103]⟩, .int .i64 0, .string ⟨R0.toArray⟩], .agg #[.string ⟨#[108, 111, 103]⟩, .int .i64 2, .string ⟨R2.toArray⟩, .int .i64 0, .slice A1 cA.length n1, .slice A2 tA.length n2, .slice none 0 0], .slice none 0 0] W (fun e w' => ∃ a b, e = .returned (.tuple #[.agg #[.string ⟨#[108, 111, 103]⟩, .string ⟨PR.toArray⟩, .string ⟨SW.toArray⟩, .int .i64 1, .int .i64 1, .string ⟨#[108, 111, 103]⟩, .int .i64 2, .string ⟨R2.toArray⟩], .agg #[.string ⟨PW.toArray⟩, .int .i64 0, a, b], .int .i64 0]) ∧ St W.heap.size W w' [ownR 9 1 a cX.length (strs cX), ownR 9 1 b tX.length (strs tX)]))
 (ko2 : ∀ W A3 A4 n3 n4 P d, Rd W A3 (strs cB) → Rd W A4 (strs tB) → cB.length ≤ n3 → n3 ≤ maxLen → tB.length ≤ n4 → n4 ≤ maxLen → Rd W P (strs [lc]) → 1 ≤ d → d ≤ maxLen → Calls Tryz.prog 35 #[.agg #[.string ⟨#[108, 111, 103]⟩, .string ⟨PR.toArray⟩, .string ⟨SW.toArray⟩, .int .i64 1, .int .i64 1, .string ⟨#[108, 111, 103]⟩, .int .i64 2, .string ⟨R2.toArray⟩], .agg #[.string ⟨#[108, 111, 103]⟩, .int .i64 3, .string ⟨R3.toArray⟩, .int .i64 1, .slice A3 cB.length n3, .slice A4 tB.length n4, .slice none 0 0], .slice P 1 d] W (fun e w' => ∃ a b, e = .returned (.tuple #[.agg #[.string ⟨#[108, 111, 103]⟩, .string ⟨PR.toArray⟩, .string ⟨SW.toArray⟩, .int .i64 1, .int .i64 2, .string ⟨#[108, 111, 103]⟩, .int .i64 3, .string ⟨R3.toArray⟩], .agg #[.string ⟨PW.toArray⟩, .int .i64 1, a, b], .int .i64 0]) ∧ St W.heap.size W w' [ownR 9 1 a cY.length (strs cY), ownR 9 1 b tY.length (strs tY)]))
 (ko3 : ∀ W A1 A2 n1 n2, Rd W A1 (strs cA) → Rd W A2 (strs tA) → cA.length ≤ n1 → n1 ≤ maxLen → tA.length ≤ n2 → n2 ≤ maxLen → Calls Tryz.prog 35 #[.agg #[.string ⟨#[108, 111, 103]⟩, .string ⟨PR.toArray⟩, .string ⟨SW.toArray⟩, .int .i64 1, .int .i64 2, .string ⟨#[108, 111, 103]⟩, .int .i64 3, .string ⟨R3.toArray⟩], .agg #[.string ⟨#[108, 111, 103]⟩, .int .i64 2, .string ⟨R2.toArray⟩, .int .i64 0, .slice A1 cA.length n1, .slice A2 tA.length n2, .slice none 0 0], .slice none 0 0] W (fun e w' => ∃ a b, e = .returned (.tuple #[.agg #[.string ⟨#[]⟩, .string ⟨#[]⟩, .string ⟨#[]⟩, .int .i64 0, .int .i64 0, .string ⟨#[]⟩, .int .i64 0, .string ⟨#[]⟩], .agg #[.string ⟨#[]⟩, .int .i64 0, a, b], .int .i64 8]) ∧ Below W.heap.size W w'))
 (kcmp : ∀ W A1 A2 n1 n2 A3 A4 n3 n4 Y, Rd W Y (strs [la, lb, lc]) → Calls Tryz.prog 38 #[.agg #[.string ⟨#[108, 111, 103]⟩, .int .i64 2, .string ⟨R2.toArray⟩, .int .i64 0, .slice A1 cA.length n1, .slice A2 tA.length n2, .slice none 0 0], .agg #[.string ⟨#[108, 111, 103]⟩, .int .i64 3, .string ⟨R3.toArray⟩, .int .i64 1, .slice A3 cB.length n3, .slice A4 tB.length n4, .slice none 0 0], .slice Y 3 3] W (fun e w' => ∃ p1 p2 p3, e = .returned (.tuple #[.agg #[.string ⟨#[]⟩, .int .i64 0, .string ⟨#[]⟩, .int .i64 0, .slice none 0 0, .slice none 0 0, .slice none 0 0, .string ⟨#[]⟩, .int .i64 0, .string ⟨#[]⟩, .int .i64 0, .slice none 0 0, .slice none 0 0, .slice none 0 0, .string ⟨#[]⟩, .slice p1 p2 p3], .bool false]) ∧ Below W.heap.size W w'))
 (kenc : ∀ W A1 A2 n1 n2 X c A5 n5 A6 n6, Rd W A1 (strs cA) → Rd W A2 (strs tA) → cA.length ≤ n1 → n1 ≤ maxLen → tA.length ≤ n2 → n2 ≤ maxLen → RowsR W X [⟨PW, 0, A5, cX, n5, A6, tX, n6⟩] → Calls Tryz.prog 30 #[.agg #[.string ⟨#[108, 111, 103]⟩, .int .i64 2, .string ⟨R2.toArray⟩, .int .i64 0, .slice A1 cA.length n1, .slice A2 tA.length n2, .slice X 1 c]] W (fun e w' => e = .returned (.tuple #[.string ⟨data.toArray⟩, .int .i64 0]) ∧ Below W.heap.size W w'))
 (kdec : ∀ W, Calls Tryz.prog 32 #[.string ⟨data.toArray⟩] W (DckP (ckP lg 2 R2 0 cA tA [rowOf PW (0, cX, tX)], 0) W))
 (krot : ∀ W, Calls Tryz.prog 16 #[.agg #[.string ⟨SR.toArray⟩, .int .i64 1, .int .i64 0], .string ⟨PR.toArray⟩] W (fun e w' => ∃ a b, e = .returned (.tuple #[.agg #[.string ⟨PR.toArray⟩, .int .i64 0, a, b], .agg #[.string ⟨SR.toArray⟩, .int .i64 1, .int .i64 1], .int .i64 0]) ∧ St W.heap.size W w' [ownR 9 1 a cR.length (strs cR), ownR 9 1 b tR.length (strs tR)]))
 (kfol : ∀ W X c A7 n7 A8 n8, RowsR W X [⟨PR, 0, A7, cR, n7, A8, tR, n8⟩] → Calls Tryz.prog 24 #[.string ⟨PR.toArray⟩, .slice X 1 c] W (fun e w' => e = .returned (.tuple #[.string ⟨PR.toArray⟩, .int .i64 0]) ∧ Below W.heap.size W w'))
 (kcos : ∀ W A1 A2 n1 n2 X c A5 n5 A6 n6 Y d, RowsR W X [⟨PW, 0, A5, cX, n5, A6, tX, n6⟩] → 1 ≤ c → c ≤ maxLen → Rd W Y (strs [PW]) → Calls Tryz.prog 28 #[.agg #[.string ⟨#[108, 111, 103]⟩, .int .i64 2, .string ⟨R2.toArray⟩, .int .i64 0, .slice A1 cA.length n1, .slice A2 tA.length n2, .slice X 1 c], .slice Y 1 d] W (fun e w' => e = .returned (.int .i64 1) ∧ Below W.heap.size W w'))
 (ksame : ∀ W V A1 A2 n1 n2 X c A5 n5 A6 n6, CkV.strip V = ckP lg 2 R2 0 cA tA [rowOf PW (0, cX, tX)] → CkV.ok W V → CkV.ok W ⟨lg, 2, R2, 0, A1, cA, n1, A2, tA, n2, X, [⟨PW, 0, A5, cX, n5, A6, tX, n6⟩], c⟩ → Calls Tryz.prog 18 #[.agg (ckA V), .agg #[.string ⟨#[108, 111, 103]⟩, .int .i64 2, .string ⟨R2.toArray⟩, .int .i64 0, .slice A1 cA.length n1, .slice A2 tA.length n2, .slice X 1 c]] W (fun e w' => e = .returned (.bool true) ∧ Below W.heap.size W w'))
 (kchk : ∀ W A1 A2 n1 n2 A3 A4 n3 n4 X c, Rd W A1 (strs cA) → Rd W A2 (strs tA) → cA.length ≤ n1 → n1 ≤ maxLen → tA.length ≤ n2 → n2 ≤ maxLen → Rd W A3 (strs cB) → Rd W A4 (strs tB) → cB.length ≤ n3 → n3 ≤ maxLen → tB.length ≤ n4 → n4 ≤ maxLen → Calls Tryz.prog 40 #[.string ⟨PR.toArray⟩, .agg #[.string ⟨#[108, 111, 103]⟩, .int .i64 2, .string ⟨R2.toArray⟩, .int .i64 0, .slice A1 cA.length n1, .slice A2 tA.length n2, .slice X 1 c, .string ⟨#[108, 111, 103]⟩, .int .i64 3, .string ⟨R3.toArray⟩, .int .i64 1, .slice A3 cB.length n3, .slice A4 tB.length n4, .slice none 0 0, .string ⟨#[]⟩, .slice none 0 0]] W (fun e w' => e = .returned (.bool false) ∧ Below W.heap.size W w'))
 (w : World) : Calls Tryz.prog 11 #[] w fun e w' => e = .returned (.bool true) ∧ Below w.heap.size w w' := by
 go_enter Tryz.func11, Tryz.ntmps11
 go_wp2_with fail
 refine (k97 _).mono ?_
 rintro e w1 ⟨rfl, b1⟩
 go_wp2_with fail
 refine (k98 _).mono ?_
 rintro e w2 ⟨rfl, b2⟩
 go_wp2_with fail
 refine (k99 _).mono ?_
 rintro e w3 ⟨rfl, b3⟩
 have y3 := ((((St.nil w).under b1).under b2).under b3).alloc 9 #[.string ⟨la.toArray⟩, .string ⟨lb.toArray⟩, .string ⟨lc.toArray⟩]
 obtain ⟨g, hg⟩ : ∃ g, w3.heap.size = g := ⟨_, rfl⟩
 rw [hg] at y3
 clear b1 b2 b3 k97 k98 k99
 go_wp2_with fail
 refine (kr _).mono ?_
 rintro e w4 ⟨rfl, b4⟩
 have y4 := y3.under b4
 go_wp2_with fail
 refine (kpub _).mono ?_
 rintro e w5 ⟨rfl, b5⟩
 have y5 := y4.under b5
 clear b4 b5 y3 y4 kpub hg
 go_wp2_with fail
 apply region_via6 (fun (pa ka : Nat) (A1 A2 : Option Addr) (n1 n2 : Nat) w' => St w.heap.size w w' [cellsR (pa) 32 #[.string ⟨#[108, 111, 103]⟩, .int .i64 2, .string ⟨R2.toArray⟩, .int .i64 0, .slice A1 cA.length n1, .slice A2 tA.length n2, .slice none 0 0], cellsR (ka) 23 #[.string ⟨SR.toArray⟩, .int .i64 1, .int .i64 1], ownR 9 1 (.slice A1 cA.length n1) cA.length (strs cA), ownR 9 1 (.slice A2 tA.length n2) tA.length (strs tA), cellsR (g) 9 #[.string ⟨la.toArray⟩, .string ⟨lb.toArray⟩, .string ⟨lc.toArray⟩]])
 case h =>
  refine wp_region_noPanic ?_
  refine wp_region_held_drew (S := (fun W' => True)) (by kernel_rfl) ?_ (fun hH0 => ?_)
  ·trivial
  refine tk 1 35 hH0 ?_
  refine tk 2 36 hH0 ?_
  refine rdy [0, 10, 11] ?_
  refine ad 34 (fun K hK => ?_) ?_
  go_simp; (
   (with_reducible refine (kr _).mono ?_)
   rintro e wK ⟨rfl, bK⟩
   have yK := y5.drew.under bK); go_wp2_with fail
  refine hK.out _ _ trivial fun hH1 => ?_
  clear hK K hH0
  try simp only [pu]
  refine rdy [3, 10, 11] ?_
  refine ad 37 (fun K hK => ?_) ?_
  go_simp; (
   (with_reducible refine (kr2 _ _ (rd_strs3 (yK.blk))).mono ?_)
   rintro e wKR ⟨rfl, bR⟩
   have yKR := yK.under bR); go_wp2_with fail
  refine hK.out _ _ trivial fun hH2 => ?_
  clear hK K hH1
  try simp only [pu]
  refine tk 4 38 hH2 ?_
  refine rdy [5, 10, 11] ?_
  refine ad 39 (fun K hK => ?_) ?_
  go_simp; (
   (with_reducible refine (ks1 _).mono ?_)
   rintro e wKRS ⟨ua, ub, rfl, t2⟩
   obtain ⟨A1, n1, rfl, _, _⟩ := own_form t2.own
   obtain ⟨A2, n2, rfl, _, _⟩ := own_form t2.tail.own
   have yKRS := yKR.join t2); go_wp2_with fail
  refine hK.out _ _ trivial fun hH3 => ?_
  clear hK K hH2
  try simp only [pu]
  refine tk 6 33 hH3 ?_
  refine tk 7 40 hH3 ?_
  refine tk 8 41 hH3 ?_
  refine tk 9 42 hH3 ?_
  refine rdy [10, 11] ?_
  refine ad 4 (fun K hK => ?_) ?_
  go_simp
  refine hK.out _ _ trivial fun hH4 => ?_
  clear hK K hH3
  try simp only [pu]
  refine rdy [11] ?_
  refine an 5 fun K hK => ?_
  go_simp
  refine hK.out _ _ trivial fun hH5 => ?_
  clear hK K hH4
  try simp only [pu]
  refine rdy [12] ?_
  refine az fun K hK => ?_
  go_simp
  refine hK.out _ _ trivial fun hH6 => ?_
  clear hK K hH5
  try simp only [pu]
  refine rdy [13] ?_
  refine az fun K hK => ?_
  go_simp
  refine hK.out _ _ trivial fun hH7 => ?_
  clear hK K hH6
  try simp only [pu]
  refine tk 14 6 hH7 ?_
  refine dn ?_ _
  rotate_left 1
  refine an 5 fun K hK => ?_
  go_simp
  refine hK.out _ _ trivial fun hH8 => ?_
  clear hK K hH3
  try simp only [pu]
  refine rdy [10] ?_
  refine an 4 fun K hK => ?_
  go_simp
  refine hK.out _ _ trivial fun hH9 => ?_
  clear hK K hH8
  try simp only [pu]
  refine rdy [12] ?_
  refine az fun K hK => ?_
  go_simp
  refine hK.out _ _ trivial fun hH10 => ?_
  clear hK K hH9
  try simp only [pu]
  refine rdy [13] ?_
  refine az fun K hK => ?_
  go_simp
  refine hK.out _ _ trivial fun hH11 => ?_
  clear hK K hH10
  try simp only [pu]
  refine tk 14 6 hH11 ?_
  refine dn ?_ _
  rotate_left 1
  refine ad 4 (fun K hK => ?_) ?_
  go_simp
  refine hK.out _ _ trivial fun hH12 => ?_
  clear hK K hH2
  try simp only [pu]
  refine rdy [5, 11] ?_
  refine ad 39 (fun K hK => ?_) ?_
  go_simp; (
   (with_reducible refine (ks1 _).mono ?_)
   rintro e wKRGS ⟨ua, ub, rfl, t2⟩
   obtain ⟨A1, n1, rfl, _, _⟩ := own_form t2.own
   obtain ⟨A2, n2, rfl, _, _⟩ := own_form t2.tail.own
   have yKRGS := (yKR.alloc 32 #[.string ⟨#[]⟩, .int .i64 0, .string ⟨#[]⟩, .int .i64 0, .slice none 0 0, .slice none 0 0, .slice none 0 0]).join t2
   have ltG := (yKRGS.tail.tail).blk.lt
   have neG : ¬ (wKRGS.heap.size = wKR.heap.size) := Nat.ne_of_gt ltG
   obtain ⟨_, _, _, _, _, _, _, _, _, _, _, _, _, _⟩ := bk7 yKRGS.tail.tail.blk); go_wp2_with fail
  refine hK.out _ _ trivial fun hH13 => ?_
  clear hK K hH12
  try simp only [pu]
  refine tk 6 33 hH13 ?_
  refine tk 7 40 hH13 ?_
  refine tk 8 41 hH13 ?_
  refine tk 9 42 hH13 ?_
  refine rdy [11] ?_
  refine an 5 fun K hK => ?_
  go_simp
  refine hK.out _ _ trivial fun hH14 => ?_
  clear hK K hH13
  try simp only [pu]
  refine rdy [12] ?_
  refine az fun K hK => ?_
  go_simp
  refine hK.out _ _ trivial fun hH15 => ?_
  clear hK K hH14
  try simp only [pu]
  refine rdy [13] ?_
  refine az fun K hK => ?_
  go_simp
  refine hK.out _ _ trivial fun hH16 => ?_
  clear hK K hH15
  try simp only [pu]
  refine tk 14 6 hH16 ?_
  refine dn ?_ _
  rotate_left 1
  refine an 5 fun K hK => ?_
  go_simp
  refine hK.out _ _ trivial fun hH17 => ?_
  clear hK K hH12
  try simp only [pu]
  refine rdy [5] ?_
  refine an 39 fun K hK => ?_
  go_simp; (
   (with_reducible refine (ks1 _).mono ?_)
   rintro e wKRGJS ⟨ua, ub, rfl, t2⟩
   obtain ⟨A1, n1, rfl, _, _⟩ := own_form t2.own
   obtain ⟨A2, n2, rfl, _, _⟩ := own_form t2.tail.own
   have yKRGJS := ((yKR.alloc 32 #[.string ⟨#[]⟩, .int .i64 0, .string ⟨#[]⟩, .int .i64 0, .slice none 0 0, .slice none 0 0, .slice none 0 0]).alloc 23 #[.string ⟨#[]⟩, .int .i64 0, .int .i64 0]).join t2
   try simp only [World.size_alloc] at yKRGJS
   have ltG := (yKRGJS.tail.tail.tail).blk.lt
   have neG : ¬ (wKRGJS.heap.size = wKR.heap.size) := Nat.ne_of_gt ltG
   have ltJ := (yKRGJS.tail.tail).blk.lt
   have neJ : ¬ (wKRGJS.heap.size = wKR.heap.size + 1) := Nat.ne_of_gt ltJ
   have ltGJ : wKR.heap.size < wKR.heap.size + 1 := by first | exact ((yKR.alloc 32 #[.string ⟨#[]⟩, .int .i64 0, .string ⟨#[]⟩, .int .i64 0, .slice none 0 0, .slice none 0 0, .slice none 0 0])).blk.lt | (have := ((yKR.alloc 32 #[.string ⟨#[]⟩, .int .i64 0, .string ⟨#[]⟩, .int .i64 0, .slice none 0 0, .slice none 0 0, .slice none 0 0])).blk.lt; simp only [World.size_alloc] at this; exact this) | (have := ((yKR.alloc 32 #[.string ⟨#[]⟩, .int .i64 0, .string ⟨#[]⟩, .int .i64 0, .slice none 0 0, .slice none 0 0, .slice none 0 0])).blk.lt; simp only [World.size_drew, World.size_alloc] at this; exact this)
   have neGJ : ¬ (wKR.heap.size = wKR.heap.size + 1) := Nat.ne_of_lt ltGJ
   have neJG : ¬ (wKR.heap.size + 1 = wKR.heap.size) := Nat.ne_of_gt ltGJ
   obtain ⟨_, _, _, _, _, _, _, _, _, _, _, _, _, _⟩ := bk7 yKRGJS.tail.tail.tail.blk
   obtain ⟨_, _, _, _, _, _⟩ := bk3 yKRGJS.tail.tail.blk); go_wp2_with fail
  refine hK.out _ _ trivial fun hH18 => ?_
  clear hK K hH17
  try simp only [pu]
  refine tk 6 33 hH18 ?_
  refine tk 7 40 hH18 ?_
  refine tk 8 41 hH18 ?_
  refine tk 9 42 hH18 ?_
  refine rdy [12] ?_
  refine az fun K hK => ?_
  go_simp
  refine hK.out _ _ trivial fun hH19 => ?_
  clear hK K hH18
  try simp only [pu]
  refine rdy [13] ?_
  refine az fun K hK => ?_
  go_simp
  refine hK.out _ _ trivial fun hH20 => ?_
  clear hK K hH19
  try simp only [pu]
  refine tk 14 6 hH20 ?_
  refine dn ?_ _
  rotate_left 1
  refine an 5 fun K hK => ?_
  go_simp
  refine hK.out _ _ trivial fun hH21 => ?_
  clear hK K hH2
  try simp only [pu]
  refine rdy [5, 10] ?_
  refine ad 39 (fun K hK => ?_) ?_
  go_simp; (
   (with_reducible refine (ks1 _).mono ?_)
   rintro e wKRJS ⟨ua, ub, rfl, t2⟩
   obtain ⟨A1, n1, rfl, _, _⟩ := own_form t2.own
   obtain ⟨A2, n2, rfl, _, _⟩ := own_form t2.tail.own
   have yKRJS := (yKR.alloc 23 #[.string ⟨#[]⟩, .int .i64 0, .int .i64 0]).join t2
   have ltJ := (yKRJS.tail.tail).blk.lt
   have neJ : ¬ (wKRJS.heap.size = wKR.heap.size) := Nat.ne_of_gt ltJ
   obtain ⟨_, _, _, _, _, _⟩ := bk3 yKRJS.tail.tail.blk); go_wp2_with fail
  refine hK.out _ _ trivial fun hH22 => ?_
  clear hK K hH21
  try simp only [pu]
  refine tk 6 33 hH22 ?_
  refine tk 7 40 hH22 ?_
  refine tk 8 41 hH22 ?_
  refine tk 9 42 hH22 ?_
  refine rdy [10] ?_
  refine an 4 fun K hK => ?_
  go_simp
  refine hK.out _ _ trivial fun hH23 => ?_
  clear hK K hH22
  try simp only [pu]
  refine rdy [12] ?_
  refine az fun K hK => ?_
  go_simp
  refine hK.out _ _ trivial fun hH24 => ?_
  clear hK K hH23
  try simp only [pu]
  refine rdy [13] ?_
  refine az fun K hK => ?_
  go_simp
  refine hK.out _ _ trivial fun hH25 => ?_
  clear hK K hH24
  try simp only [pu]
  refine tk 14 6 hH25 ?_
  refine dn ?_ _
  rotate_left 1
  refine an 4 fun K hK => ?_
  go_simp
  refine hK.out _ _ trivial fun hH26 => ?_
  clear hK K hH21
  try simp only [pu]
  refine rdy [5] ?_
  refine an 39 fun K hK => ?_
  go_simp; (
   (with_reducible refine (ks1 _).mono ?_)
   rintro e wKRJGS ⟨ua, ub, rfl, t2⟩
   obtain ⟨A1, n1, rfl, _, _⟩ := own_form t2.own
   obtain ⟨A2, n2, rfl, _, _⟩ := own_form t2.tail.own
   have yKRJGS := ((yKR.alloc 23 #[.string ⟨#[]⟩, .int .i64 0, .int .i64 0]).alloc 32 #[.string ⟨#[]⟩, .int .i64 0, .string ⟨#[]⟩, .int .i64 0, .slice none 0 0, .slice none 0 0, .slice none 0 0]).join t2
   try simp only [World.size_alloc] at yKRJGS
   have ltG := (yKRJGS.tail.tail).blk.lt
   have neG : ¬ (wKRJGS.heap.size = wKR.heap.size + 1) := Nat.ne_of_gt ltG
   have ltJ := (yKRJGS.tail.tail.tail).blk.lt
   have neJ : ¬ (wKRJGS.heap.size = wKR.heap.size) := Nat.ne_of_gt ltJ
   have ltJG : wKR.heap.size < wKR.heap.size + 1 := by first | exact ((yKR.alloc 23 #[.string ⟨#[]⟩, .int .i64 0, .int .i64 0])).blk.lt | (have := ((yKR.alloc 23 #[.string ⟨#[]⟩, .int .i64 0, .int .i64 0])).blk.lt; simp only [World.size_alloc] at this; exact this) | (have := ((yKR.alloc 23 #[.string ⟨#[]⟩, .int .i64 0, .int .i64 0])).blk.lt; simp only [World.size_drew, World.size_alloc] at this; exact this)
   have neJG : ¬ (wKR.heap.size = wKR.heap.size + 1) := Nat.ne_of_lt ltJG
   have neGJ : ¬ (wKR.heap.size + 1 = wKR.heap.size) := Nat.ne_of_gt ltJG
   obtain ⟨_, _, _, _, _, _, _, _, _, _, _, _, _, _⟩ := bk7 yKRJGS.tail.tail.blk
   obtain ⟨_, _, _, _, _, _⟩ := bk3 yKRJGS.tail.tail.tail.blk); go_wp2_with fail
  refine hK.out _ _ trivial fun hH27 => ?_
  clear hK K hH26
  try simp only [pu]
  refine tk 6 33 hH27 ?_
  refine tk 7 40 hH27 ?_
  refine tk 8 41 hH27 ?_
  refine tk 9 42 hH27 ?_
  refine rdy [12] ?_
  refine az fun K hK => ?_
  go_simp
  refine hK.out _ _ trivial fun hH28 => ?_
  clear hK K hH27
  try simp only [pu]
  refine rdy [13] ?_
  refine az fun K hK => ?_
  go_simp
  refine hK.out _ _ trivial fun hH29 => ?_
  clear hK K hH28
  try simp only [pu]
  refine tk 14 6 hH29 ?_
  refine dn ?_ _
  rotate_left 1
  refine ad 4 (fun K hK => ?_) ?_
  go_simp
  refine hK.out _ _ trivial fun hH30 => ?_
  clear hK K hH1
  try simp only [pu]
  refine rdy [3, 11] ?_
  refine ad 37 (fun K hK => ?_) ?_
  go_simp; (
   (with_reducible refine (kr2 _ _ (rd_strs3 ((yK.alloc 32 #[.string ⟨#[]⟩, .int .i64 0, .string ⟨#[]⟩, .int .i64 0, .slice none 0 0, .slice none 0 0, .slice none 0 0]).tail.blk))).mono ?_)
   rintro e wKGR ⟨rfl, bR⟩
   have yKGR := (yK.alloc 32 #[.string ⟨#[]⟩, .int .i64 0, .string ⟨#[]⟩, .int .i64 0, .slice none 0 0, .slice none 0 0, .slice none 0 0]).under bR); go_wp2_with fail
  refine hK.out _ _ trivial fun hH31 => ?_
  clear hK K hH30
  try simp only [pu]
  refine tk 4 38 hH31 ?_
  refine rdy [5, 11] ?_
  refine ad 39 (fun K hK => ?_) ?_
  go_simp; (
   (with_reducible refine (ks1 _).mono ?_)
   rintro e wKGRS ⟨ua, ub, rfl, t2⟩
   obtain ⟨A1, n1, rfl, _, _⟩ := own_form t2.own
   obtain ⟨A2, n2, rfl, _, _⟩ := own_form t2.tail.own
   have yKGRS := yKGR.join t2
   have ltG := (yKGRS.tail.tail).blk.lt
   have neG : ¬ (wKGRS.heap.size = wK.heap.size) := Nat.ne_of_gt ltG
   obtain ⟨_, _, _, _, _, _, _, _, _, _, _, _, _, _⟩ := bk7 yKGRS.tail.tail.blk); go_wp2_with fail
  refine hK.out _ _ trivial fun hH32 => ?_
  clear hK K hH31
  try simp only [pu]
  refine tk 6 33 hH32 ?_
  refine tk 7 40 hH32 ?_
  refine tk 8 41 hH32 ?_
  refine tk 9 42 hH32 ?_
  refine rdy [11] ?_
  refine an 5 fun K hK => ?_
  go_simp
  refine hK.out _ _ trivial fun hH33 => ?_
  clear hK K hH32
  try simp only [pu]
  refine rdy [12] ?_
  refine az fun K hK => ?_
  go_simp
  refine hK.out _ _ trivial fun hH34 => ?_
  clear hK K hH33
  try simp only [pu]
  refine rdy [13] ?_
  refine az fun K hK => ?_
  go_simp
  refine hK.out _ _ trivial fun hH35 => ?_
  clear hK K hH34
  try simp only [pu]
  refine tk 14 6 hH35 ?_
  refine dn ?_ _
  rotate_left 1
  refine an 5 fun K hK => ?_
  go_simp
  refine hK.out _ _ trivial fun hH36 => ?_
  clear hK K hH31
  try simp only [pu]
  refine rdy [5] ?_
  refine an 39 fun K hK => ?_
  go_simp; (
   (with_reducible refine (ks1 _).mono ?_)
   rintro e wKGRJS ⟨ua, ub, rfl, t2⟩
   obtain ⟨A1, n1, rfl, _, _⟩ := own_form t2.own
   obtain ⟨A2, n2, rfl, _, _⟩ := own_form t2.tail.own
   have yKGRJS := (yKGR.alloc 23 #[.string ⟨#[]⟩, .int .i64 0, .int .i64 0]).join t2
   try simp only [World.size_alloc] at yKGRJS
   have ltG := (yKGRJS.tail.tail.tail).blk.lt
   have neG : ¬ (wKGRJS.heap.size = wK.heap.size) := Nat.ne_of_gt ltG
   have ltJ := (yKGRJS.tail.tail).blk.lt
   have neJ : ¬ (wKGRJS.heap.size = wKGR.heap.size) := Nat.ne_of_gt ltJ
   have ltGJ : wK.heap.size < wKGR.heap.size := by first | exact (yKGR).blk.lt | (have := (yKGR).blk.lt; simp only [World.size_alloc] at this; exact this) | (have := (yKGR).blk.lt; simp only [World.size_drew, World.size_alloc] at this; exact this)
   have neGJ : ¬ (wK.heap.size = wKGR.heap.size) := Nat.ne_of_lt ltGJ
   have neJG : ¬ (wKGR.heap.size = wK.heap.size) := Nat.ne_of_gt ltGJ
   obtain ⟨_, _, _, _, _, _, _, _, _, _, _, _, _, _⟩ := bk7 yKGRJS.tail.tail.tail.blk
   obtain ⟨_, _, _, _, _, _⟩ := bk3 yKGRJS.tail.tail.blk); go_wp2_with fail
  refine hK.out _ _ trivial fun hH37 => ?_
  clear hK K hH36
  try simp only [pu]
  refine tk 6 33 hH37 ?_
  refine tk 7 40 hH37 ?_
  refine tk 8 41 hH37 ?_
  refine tk 9 42 hH37 ?_
  refine rdy [12] ?_
  refine az fun K hK => ?_
  go_simp
  refine hK.out _ _ trivial fun hH38 => ?_
  clear hK K hH37
  try simp only [pu]
  refine rdy [13] ?_
  refine az fun K hK => ?_
  go_simp
  refine hK.out _ _ trivial fun hH39 => ?_
  clear hK K hH38
  try simp only [pu]
  refine tk 14 6 hH39 ?_
  refine dn ?_ _
  rotate_left 1
  refine an 5 fun K hK => ?_
  go_simp
  refine hK.out _ _ trivial fun hH40 => ?_
  clear hK K hH30
  try simp only [pu]
  refine rdy [3] ?_
  refine an 37 fun K hK => ?_
  go_simp; (
   (with_reducible refine (kr2 _ _ (rd_strs3 (((yK.alloc 32 #[.string ⟨#[]⟩, .int .i64 0, .string ⟨#[]⟩, .int .i64 0, .slice none 0 0, .slice none 0 0, .slice none 0 0]).alloc 23 #[.string ⟨#[]⟩, .int .i64 0, .int .i64 0]).tail.tail.blk))).mono ?_)
   rintro e wKGJR ⟨rfl, bR⟩
   have yKGJR := ((yK.alloc 32 #[.string ⟨#[]⟩, .int .i64 0, .string ⟨#[]⟩, .int .i64 0, .slice none 0 0, .slice none 0 0, .slice none 0 0]).alloc 23 #[.string ⟨#[]⟩, .int .i64 0, .int .i64 0]).under bR
   try simp only [World.size_alloc] at yKGJR); go_wp2_with fail
  refine hK.out _ _ trivial fun hH41 => ?_
  clear hK K hH40
  try simp only [pu]
  refine tk 4 38 hH41 ?_
  refine rdy [5] ?_
  refine an 39 fun K hK => ?_
  go_simp; (
   (with_reducible refine (ks1 _).mono ?_)
   rintro e wKGJRS ⟨ua, ub, rfl, t2⟩
   obtain ⟨A1, n1, rfl, _, _⟩ := own_form t2.own
   obtain ⟨A2, n2, rfl, _, _⟩ := own_form t2.tail.own
   have yKGJRS := yKGJR.join t2
   try simp only [World.size_alloc] at yKGJRS
   have ltG := (yKGJRS.tail.tail.tail).blk.lt
   have neG : ¬ (wKGJRS.heap.size = wK.heap.size) := Nat.ne_of_gt ltG
   have ltJ := (yKGJRS.tail.tail).blk.lt
   have neJ : ¬ (wKGJRS.heap.size = wK.heap.size + 1) := Nat.ne_of_gt ltJ
   have ltGJ : wK.heap.size < wK.heap.size + 1 := by first | exact ((yK.alloc 32 #[.string ⟨#[]⟩, .int .i64 0, .string ⟨#[]⟩, .int .i64 0, .slice none 0 0, .slice none 0 0, .slice none 0 0])).blk.lt | (have := ((yK.alloc 32 #[.string ⟨#[]⟩, .int .i64 0, .string ⟨#[]⟩, .int .i64 0, .slice none 0 0, .slice none 0 0, .slice none 0 0])).blk.lt; simp only [World.size_alloc] at this; exact this) | (have := ((yK.alloc 32 #[.string ⟨#[]⟩, .int .i64 0, .string ⟨#[]⟩, .int .i64 0, .slice none 0 0, .slice none 0 0, .slice none 0 0])).blk.lt; simp only [World.size_drew, World.size_alloc] at this; exact this)
   have neGJ : ¬ (wK.heap.size = wK.heap.size + 1) := Nat.ne_of_lt ltGJ
   have neJG : ¬ (wK.heap.size + 1 = wK.heap.size) := Nat.ne_of_gt ltGJ
   obtain ⟨_, _, _, _, _, _, _, _, _, _, _, _, _, _⟩ := bk7 yKGJRS.tail.tail.tail.blk
   obtain ⟨_, _, _, _, _, _⟩ := bk3 yKGJRS.tail.tail.blk); go_wp2_with fail
  refine hK.out _ _ trivial fun hH42 => ?_
  clear hK K hH41
  try simp only [pu]
  refine tk 6 33 hH42 ?_
  refine tk 7 40 hH42 ?_
  refine tk 8 41 hH42 ?_
  refine tk 9 42 hH42 ?_
  refine rdy [12] ?_
  refine az fun K hK => ?_
  go_simp
  refine hK.out _ _ trivial fun hH43 => ?_
  clear hK K hH42
  try simp only [pu]
  refine rdy [13] ?_
  refine az fun K hK => ?_
  go_simp
  refine hK.out _ _ trivial fun hH44 => ?_
  clear hK K hH43
  try simp only [pu]
  refine tk 14 6 hH44 ?_
  refine dn ?_ _
  rotate_left 1
  refine an 5 fun K hK => ?_
  go_simp
  refine hK.out _ _ trivial fun hH45 => ?_
  clear hK K hH1
  try simp only [pu]
  refine rdy [3, 10] ?_
  refine ad 37 (fun K hK => ?_) ?_
  go_simp; (
   (with_reducible refine (kr2 _ _ (rd_strs3 ((yK.alloc 23 #[.string ⟨#[]⟩, .int .i64 0, .int .i64 0]).tail.blk))).mono ?_)
   rintro e wKJR ⟨rfl, bR⟩
   have yKJR := (yK.alloc 23 #[.string ⟨#[]⟩, .int .i64 0, .int .i64 0]).under bR); go_wp2_with fail
  refine hK.out _ _ trivial fun hH46 => ?_
  clear hK K hH45
  try simp only [pu]
  refine tk 4 38 hH46 ?_
  refine rdy [5, 10] ?_
  refine ad 39 (fun K hK => ?_) ?_
  go_simp; (
   (with_reducible refine (ks1 _).mono ?_)
   rintro e wKJRS ⟨ua, ub, rfl, t2⟩
   obtain ⟨A1, n1, rfl, _, _⟩ := own_form t2.own
   obtain ⟨A2, n2, rfl, _, _⟩ := own_form t2.tail.own
   have yKJRS := yKJR.join t2
   have ltJ := (yKJRS.tail.tail).blk.lt
   have neJ : ¬ (wKJRS.heap.size = wK.heap.size) := Nat.ne_of_gt ltJ
   obtain ⟨_, _, _, _, _, _⟩ := bk3 yKJRS.tail.tail.blk); go_wp2_with fail
  refine hK.out _ _ trivial fun hH47 => ?_
  clear hK K hH46
  try simp only [pu]
  refine tk 6 33 hH47 ?_
  refine tk 7 40 hH47 ?_
  refine tk 8 41 hH47 ?_
  refine tk 9 42 hH47 ?_
  refine rdy [10] ?_
  refine an 4 fun K hK => ?_
  go_simp
  refine hK.out _ _ trivial fun hH48 => ?_
  clear hK K hH47
  try simp only [pu]
  refine rdy [12] ?_
  refine az fun K hK => ?_
  go_simp
  refine hK.out _ _ trivial fun hH49 => ?_
  clear hK K hH48
  try simp only [pu]
  refine rdy [13] ?_
  refine az fun K hK => ?_
  go_simp
  refine hK.out _ _ trivial fun hH50 => ?_
  clear hK K hH49
  try simp only [pu]
  refine tk 14 6 hH50 ?_
  refine dn ?_ _
  rotate_left 1
  refine an 4 fun K hK => ?_
  go_simp
  refine hK.out _ _ trivial fun hH51 => ?_
  clear hK K hH46
  try simp only [pu]
  refine rdy [5] ?_
  refine an 39 fun K hK => ?_
  go_simp; (
   (with_reducible refine (ks1 _).mono ?_)
   rintro e wKJRGS ⟨ua, ub, rfl, t2⟩
   obtain ⟨A1, n1, rfl, _, _⟩ := own_form t2.own
   obtain ⟨A2, n2, rfl, _, _⟩ := own_form t2.tail.own
   have yKJRGS := (yKJR.alloc 32 #[.string ⟨#[]⟩, .int .i64 0, .string ⟨#[]⟩, .int .i64 0, .slice none 0 0, .slice none 0 0, .slice none 0 0]).join t2
   try simp only [World.size_alloc] at yKJRGS
   have ltG := (yKJRGS.tail.tail).blk.lt
   have neG : ¬ (wKJRGS.heap.size = wKJR.heap.size) := Nat.ne_of_gt ltG
   have ltJ := (yKJRGS.tail.tail.tail).blk.lt
   have neJ : ¬ (wKJRGS.heap.size = wK.heap.size) := Nat.ne_of_gt ltJ
   have ltJG : wK.heap.size < wKJR.heap.size := by first | exact (yKJR).blk.lt | (have := (yKJR).blk.lt; simp only [World.size_alloc] at this; exact this) | (have := (yKJR).blk.lt; simp only [World.size_drew, World.size_alloc] at this; exact this)
   have neJG : ¬ (wK.heap.size = wKJR.heap.size) := Nat.ne_of_lt ltJG
   have neGJ : ¬ (wKJR.heap.size = wK.heap.size) := Nat.ne_of_gt ltJG
   obtain ⟨_, _, _, _, _, _, _, _, _, _, _, _, _, _⟩ := bk7 yKJRGS.tail.tail.blk
   obtain ⟨_, _, _, _, _, _⟩ := bk3 yKJRGS.tail.tail.tail.blk); go_wp2_with fail
  refine hK.out _ _ trivial fun hH52 => ?_
  clear hK K hH51
  try simp only [pu]
  refine tk 6 33 hH52 ?_
  refine tk 7 40 hH52 ?_
  refine tk 8 41 hH52 ?_
  refine tk 9 42 hH52 ?_
  refine rdy [12] ?_
  refine az fun K hK => ?_
  go_simp
  refine hK.out _ _ trivial fun hH53 => ?_
  clear hK K hH52
  try simp only [pu]
  refine rdy [13] ?_
  refine az fun K hK => ?_
  go_simp
  refine hK.out _ _ trivial fun hH54 => ?_
  clear hK K hH53
  try simp only [pu]
  refine tk 14 6 hH54 ?_
  refine dn ?_ _
  rotate_left 1
  refine an 4 fun K hK => ?_
  go_simp
  refine hK.out _ _ trivial fun hH55 => ?_
  clear hK K hH45
  try simp only [pu]
  refine rdy [3] ?_
  refine an 37 fun K hK => ?_
  go_simp; (
   (with_reducible refine (kr2 _ _ (rd_strs3 (((yK.alloc 23 #[.string ⟨#[]⟩, .int .i64 0, .int .i64 0]).alloc 32 #[.string ⟨#[]⟩, .int .i64 0, .string ⟨#[]⟩, .int .i64 0, .slice none 0 0, .slice none 0 0, .slice none 0 0]).tail.tail.blk))).mono ?_)
   rintro e wKJGR ⟨rfl, bR⟩
   have yKJGR := ((yK.alloc 23 #[.string ⟨#[]⟩, .int .i64 0, .int .i64 0]).alloc 32 #[.string ⟨#[]⟩, .int .i64 0, .string ⟨#[]⟩, .int .i64 0, .slice none 0 0, .slice none 0 0, .slice none 0 0]).under bR
   try simp only [World.size_alloc] at yKJGR); go_wp2_with fail
  refine hK.out _ _ trivial fun hH56 => ?_
  clear hK K hH55
  try simp only [pu]
  refine tk 4 38 hH56 ?_
  refine rdy [5] ?_
  refine an 39 fun K hK => ?_
  go_simp; (
   (with_reducible refine (ks1 _).mono ?_)
   rintro e wKJGRS ⟨ua, ub, rfl, t2⟩
   obtain ⟨A1, n1, rfl, _, _⟩ := own_form t2.own
   obtain ⟨A2, n2, rfl, _, _⟩ := own_form t2.tail.own
   have yKJGRS := yKJGR.join t2
   try simp only [World.size_alloc] at yKJGRS
   have ltG := (yKJGRS.tail.tail).blk.lt
   have neG : ¬ (wKJGRS.heap.size = wK.heap.size + 1) := Nat.ne_of_gt ltG
   have ltJ := (yKJGRS.tail.tail.tail).blk.lt
   have neJ : ¬ (wKJGRS.heap.size = wK.heap.size) := Nat.ne_of_gt ltJ
   have ltJG : wK.heap.size < wK.heap.size + 1 := by first | exact ((yK.alloc 23 #[.string ⟨#[]⟩, .int .i64 0, .int .i64 0])).blk.lt | (have := ((yK.alloc 23 #[.string ⟨#[]⟩, .int .i64 0, .int .i64 0])).blk.lt; simp only [World.size_alloc] at this; exact this) | (have := ((yK.alloc 23 #[.string ⟨#[]⟩, .int .i64 0, .int .i64 0])).blk.lt; simp only [World.size_drew, World.size_alloc] at this; exact this)
   have neJG : ¬ (wK.heap.size = wK.heap.size + 1) := Nat.ne_of_lt ltJG
   have neGJ : ¬ (wK.heap.size + 1 = wK.heap.size) := Nat.ne_of_gt ltJG
   obtain ⟨_, _, _, _, _, _, _, _, _, _, _, _, _, _⟩ := bk7 yKJGRS.tail.tail.blk
   obtain ⟨_, _, _, _, _, _⟩ := bk3 yKJGRS.tail.tail.tail.blk); go_wp2_with fail
  refine hK.out _ _ trivial fun hH57 => ?_
  clear hK K hH56
  try simp only [pu]
  refine tk 6 33 hH57 ?_
  refine tk 7 40 hH57 ?_
  refine tk 8 41 hH57 ?_
  refine tk 9 42 hH57 ?_
  refine rdy [12] ?_
  refine az fun K hK => ?_
  go_simp
  refine hK.out _ _ trivial fun hH58 => ?_
  clear hK K hH57
  try simp only [pu]
  refine rdy [13] ?_
  refine az fun K hK => ?_
  go_simp
  refine hK.out _ _ trivial fun hH59 => ?_
  clear hK K hH58
  try simp only [pu]
  refine tk 14 6 hH59 ?_
  refine dn ?_ _
  rotate_left 1
  refine ad 4 (fun K hK => ?_) ?_
  go_simp
  refine hK.out _ _ trivial fun hH60 => ?_
  clear hK K hH0
  try simp only [pu]
  refine rdy [0, 11] ?_
  refine ad 34 (fun K hK => ?_) ?_
  go_simp; (
   (with_reducible refine (kr _).mono ?_)
   rintro e wGK ⟨rfl, bK⟩
   have yGK := (y5.alloc 32 #[.string ⟨#[]⟩, .int .i64 0, .string ⟨#[]⟩, .int .i64 0, .slice none 0 0, .slice none 0 0, .slice none 0 0]).drew.under bK); go_wp2_with fail
  refine hK.out _ _ trivial fun hH61 => ?_
  clear hK K hH60
  try simp only [pu]
  refine rdy [3, 11] ?_
  refine ad 37 (fun K hK => ?_) ?_
  go_simp; (
   (with_reducible refine (kr2 _ _ (rd_strs3 (yGK.tail.blk))).mono ?_)
   rintro e wGKR ⟨rfl, bR⟩
   have yGKR := yGK.under bR); go_wp2_with fail
  refine hK.out _ _ trivial fun hH62 => ?_
  clear hK K hH61
  try simp only [pu]
  refine tk 4 38 hH62 ?_
  refine rdy [5, 11] ?_
  refine ad 39 (fun K hK => ?_) ?_
  go_simp; (
   (with_reducible refine (ks1 _).mono ?_)
   rintro e wGKRS ⟨ua, ub, rfl, t2⟩
   obtain ⟨A1, n1, rfl, _, _⟩ := own_form t2.own
   obtain ⟨A2, n2, rfl, _, _⟩ := own_form t2.tail.own
   have yGKRS := yGKR.join t2
   have ltG := (yGKRS.tail.tail).blk.lt
   have neG : ¬ (wGKRS.heap.size = w5.heap.size) := Nat.ne_of_gt ltG
   obtain ⟨_, _, _, _, _, _, _, _, _, _, _, _, _, _⟩ := bk7 yGKRS.tail.tail.blk); go_wp2_with fail
  refine hK.out _ _ trivial fun hH63 => ?_
  clear hK K hH62
  try simp only [pu]
  refine tk 6 33 hH63 ?_
  refine tk 7 40 hH63 ?_
  refine tk 8 41 hH63 ?_
  refine tk 9 42 hH63 ?_
  refine rdy [11] ?_
  refine an 5 fun K hK => ?_
  go_simp
  refine hK.out _ _ trivial fun hH64 => ?_
  clear hK K hH63
  try simp only [pu]
  refine rdy [12] ?_
  refine az fun K hK => ?_
  go_simp
  refine hK.out _ _ trivial fun hH65 => ?_
  clear hK K hH64
  try simp only [pu]
  refine rdy [13] ?_
  refine az fun K hK => ?_
  go_simp
  refine hK.out _ _ trivial fun hH66 => ?_
  clear hK K hH65
  try simp only [pu]
  refine tk 14 6 hH66 ?_
  refine dn ?_ _
  rotate_left 1
  refine an 5 fun K hK => ?_
  go_simp
  refine hK.out _ _ trivial fun hH67 => ?_
  clear hK K hH62
  try simp only [pu]
  refine rdy [5] ?_
  refine an 39 fun K hK => ?_
  go_simp; (
   (with_reducible refine (ks1 _).mono ?_)
   rintro e wGKRJS ⟨ua, ub, rfl, t2⟩
   obtain ⟨A1, n1, rfl, _, _⟩ := own_form t2.own
   obtain ⟨A2, n2, rfl, _, _⟩ := own_form t2.tail.own
   have yGKRJS := (yGKR.alloc 23 #[.string ⟨#[]⟩, .int .i64 0, .int .i64 0]).join t2
   try simp only [World.size_alloc] at yGKRJS
   have ltG := (yGKRJS.tail.tail.tail).blk.lt
   have neG : ¬ (wGKRJS.heap.size = w5.heap.size) := Nat.ne_of_gt ltG
   have ltJ := (yGKRJS.tail.tail).blk.lt
   have neJ : ¬ (wGKRJS.heap.size = wGKR.heap.size) := Nat.ne_of_gt ltJ
   have ltGJ : w5.heap.size < wGKR.heap.size := by first | exact (yGKR).blk.lt | (have := (yGKR).blk.lt; simp only [World.size_alloc] at this; exact this) | (have := (yGKR).blk.lt; simp only [World.size_drew, World.size_alloc] at this; exact this)
   have neGJ : ¬ (w5.heap.size = wGKR.heap.size) := Nat.ne_of_lt ltGJ
   have neJG : ¬ (wGKR.heap.size = w5.heap.size) := Nat.ne_of_gt ltGJ
   obtain ⟨_, _, _, _, _, _, _, _, _, _, _, _, _, _⟩ := bk7 yGKRJS.tail.tail.tail.blk
   obtain ⟨_, _, _, _, _, _⟩ := bk3 yGKRJS.tail.tail.blk); go_wp2_with fail
  refine hK.out _ _ trivial fun hH68 => ?_
  clear hK K hH67
  try simp only [pu]
  refine tk 6 33 hH68 ?_
  refine tk 7 40 hH68 ?_
  refine tk 8 41 hH68 ?_
  refine tk 9 42 hH68 ?_
  refine rdy [12] ?_
  refine az fun K hK => ?_
  go_simp
  refine hK.out _ _ trivial fun hH69 => ?_
  clear hK K hH68
  try simp only [pu]
  refine rdy [13] ?_
  refine az fun K hK => ?_
  go_simp
  refine hK.out _ _ trivial fun hH70 => ?_
  clear hK K hH69
  try simp only [pu]
  refine tk 14 6 hH70 ?_
  refine dn ?_ _
  rotate_left 1
  refine an 5 fun K hK => ?_
  go_simp
  refine hK.out _ _ trivial fun hH71 => ?_
  clear hK K hH61
  try simp only [pu]
  refine rdy [3] ?_
  refine an 37 fun K hK => ?_
  go_simp; (
   (with_reducible refine (kr2 _ _ (rd_strs3 ((yGK.alloc 23 #[.string ⟨#[]⟩, .int .i64 0, .int .i64 0]).tail.tail.blk))).mono ?_)
   rintro e wGKJR ⟨rfl, bR⟩
   have yGKJR := (yGK.alloc 23 #[.string ⟨#[]⟩, .int .i64 0, .int .i64 0]).under bR
   try simp only [World.size_alloc] at yGKJR); go_wp2_with fail
  refine hK.out _ _ trivial fun hH72 => ?_
  clear hK K hH71
  try simp only [pu]
  refine tk 4 38 hH72 ?_
  refine rdy [5] ?_
  refine an 39 fun K hK => ?_
  go_simp; (
   (with_reducible refine (ks1 _).mono ?_)
   rintro e wGKJRS ⟨ua, ub, rfl, t2⟩
   obtain ⟨A1, n1, rfl, _, _⟩ := own_form t2.own
   obtain ⟨A2, n2, rfl, _, _⟩ := own_form t2.tail.own
   have yGKJRS := yGKJR.join t2
   try simp only [World.size_alloc] at yGKJRS
   have ltG := (yGKJRS.tail.tail.tail).blk.lt
   have neG : ¬ (wGKJRS.heap.size = w5.heap.size) := Nat.ne_of_gt ltG
   have ltJ := (yGKJRS.tail.tail).blk.lt
   have neJ : ¬ (wGKJRS.heap.size = wGK.heap.size) := Nat.ne_of_gt ltJ
   have ltGJ : w5.heap.size < wGK.heap.size := by first | exact (yGK).blk.lt | (have := (yGK).blk.lt; simp only [World.size_alloc] at this; exact this) | (have := (yGK).blk.lt; simp only [World.size_drew, World.size_alloc] at this; exact this)
   have neGJ : ¬ (w5.heap.size = wGK.heap.size) := Nat.ne_of_lt ltGJ
   have neJG : ¬ (wGK.heap.size = w5.heap.size) := Nat.ne_of_gt ltGJ
   obtain ⟨_, _, _, _, _, _, _, _, _, _, _, _, _, _⟩ := bk7 yGKJRS.tail.tail.tail.blk
   obtain ⟨_, _, _, _, _, _⟩ := bk3 yGKJRS.tail.tail.blk); go_wp2_with fail
  refine hK.out _ _ trivial fun hH73 => ?_
  clear hK K hH72
  try simp only [pu]
  refine tk 6 33 hH73 ?_
  refine tk 7 40 hH73 ?_
  refine tk 8 41 hH73 ?_
  refine tk 9 42 hH73 ?_
  refine rdy [12] ?_
  refine az fun K hK => ?_
  go_simp
  refine hK.out _ _ trivial fun hH74 => ?_
  clear hK K hH73
  try simp only [pu]
  refine rdy [13] ?_
  refine az fun K hK => ?_
  go_simp
  refine hK.out _ _ trivial fun hH75 => ?_
  clear hK K hH74
  try simp only [pu]
  refine tk 14 6 hH75 ?_
  refine dn ?_ _
  rotate_left 1
  refine an 5 fun K hK => ?_
  go_simp
  refine hK.out _ _ trivial fun hH76 => ?_
  clear hK K hH60
  try simp only [pu]
  refine rdy [0] ?_
  refine an 34 fun K hK => ?_
  go_simp; (
   (with_reducible refine (kr _).mono ?_)
   rintro e wGJK ⟨rfl, bK⟩
   have yGJK := ((y5.alloc 32 #[.string ⟨#[]⟩, .int .i64 0, .string ⟨#[]⟩, .int .i64 0, .slice none 0 0, .slice none 0 0, .slice none 0 0]).alloc 23 #[.string ⟨#[]⟩, .int .i64 0, .int .i64 0]).drew.under bK
   try simp only [World.size_alloc] at yGJK); go_wp2_with fail
  refine hK.out _ _ trivial fun hH77 => ?_
  clear hK K hH76
  try simp only [pu]
  refine rdy [3] ?_
  refine an 37 fun K hK => ?_
  go_simp; (
   (with_reducible refine (kr2 _ _ (rd_strs3 (yGJK.tail.tail.blk))).mono ?_)
   rintro e wGJKR ⟨rfl, bR⟩
   have yGJKR := yGJK.under bR
   try simp only [World.size_alloc] at yGJKR); go_wp2_with fail
  refine hK.out _ _ trivial fun hH78 => ?_
  clear hK K hH77
  try simp only [pu]
  refine tk 4 38 hH78 ?_
  refine rdy [5] ?_
  refine an 39 fun K hK => ?_
  go_simp; (
   (with_reducible refine (ks1 _).mono ?_)
   rintro e wGJKRS ⟨ua, ub, rfl, t2⟩
   obtain ⟨A1, n1, rfl, _, _⟩ := own_form t2.own
   obtain ⟨A2, n2, rfl, _, _⟩ := own_form t2.tail.own
   have yGJKRS := yGJKR.join t2
   try simp only [World.size_alloc] at yGJKRS
   have ltG := (yGJKRS.tail.tail.tail).blk.lt
   have neG : ¬ (wGJKRS.heap.size = w5.heap.size) := Nat.ne_of_gt ltG
   have ltJ := (yGJKRS.tail.tail).blk.lt
   have neJ : ¬ (wGJKRS.heap.size = w5.heap.size + 1) := Nat.ne_of_gt ltJ
   have ltGJ : w5.heap.size < w5.heap.size + 1 := by first | exact ((y5.alloc 32 #[.string ⟨#[]⟩, .int .i64 0, .string ⟨#[]⟩, .int .i64 0, .slice none 0 0, .slice none 0 0, .slice none 0 0]).drew).blk.lt | (have := ((y5.alloc 32 #[.string ⟨#[]⟩, .int .i64 0, .string ⟨#[]⟩, .int .i64 0, .slice none 0 0, .slice none 0 0, .slice none 0 0]).drew).blk.lt; simp only [World.size_alloc] at this; exact this) | (have := ((y5.alloc 32 #[.string ⟨#[]⟩, .int .i64 0, .string ⟨#[]⟩, .int .i64 0, .slice none 0 0, .slice none 0 0, .slice none 0 0]).drew).blk.lt; simp only [World.size_drew, World.size_alloc] at this; exact this)
   have neGJ : ¬ (w5.heap.size = w5.heap.size + 1) := Nat.ne_of_lt ltGJ
   have neJG : ¬ (w5.heap.size + 1 = w5.heap.size) := Nat.ne_of_gt ltGJ
   obtain ⟨_, _, _, _, _, _, _, _, _, _, _, _, _, _⟩ := bk7 yGJKRS.tail.tail.tail.blk
   obtain ⟨_, _, _, _, _, _⟩ := bk3 yGJKRS.tail.tail.blk); go_wp2_with fail
  refine hK.out _ _ trivial fun hH79 => ?_
  clear hK K hH78
  try simp only [pu]
  refine tk 6 33 hH79 ?_
  refine tk 7 40 hH79 ?_
  refine tk 8 41 hH79 ?_
  refine tk 9 42 hH79 ?_
  refine rdy [12] ?_
  refine az fun K hK => ?_
  go_simp
  refine hK.out _ _ trivial fun hH80 => ?_
  clear hK K hH79
  try simp only [pu]
  refine rdy [13] ?_
  refine az fun K hK => ?_
  go_simp
  refine hK.out _ _ trivial fun hH81 => ?_
  clear hK K hH80
  try simp only [pu]
  refine tk 14 6 hH81 ?_
  refine dn ?_ _
  rotate_left 1
  refine an 5 fun K hK => ?_
  go_simp
  refine hK.out _ _ trivial fun hH82 => ?_
  clear hK K hH0
  try simp only [pu]
  refine rdy [0, 10] ?_
  refine ad 34 (fun K hK => ?_) ?_
  go_simp; (
   (with_reducible refine (kr _).mono ?_)
   rintro e wJK ⟨rfl, bK⟩
   have yJK := (y5.alloc 23 #[.string ⟨#[]⟩, .int .i64 0, .int .i64 0]).drew.under bK); go_wp2_with fail
  refine hK.out _ _ trivial fun hH83 => ?_
  clear hK K hH82
  try simp only [pu]
  refine rdy [3, 10] ?_
  refine ad 37 (fun K hK => ?_) ?_
  go_simp; (
   (with_reducible refine (kr2 _ _ (rd_strs3 (yJK.tail.blk))).mono ?_)
   rintro e wJKR ⟨rfl, bR⟩
   have yJKR := yJK.under bR); go_wp2_with fail
  refine hK.out _ _ trivial fun hH84 => ?_
  clear hK K hH83
  try simp only [pu]
  refine tk 4 38 hH84 ?_
  refine rdy [5, 10] ?_
  refine ad 39 (fun K hK => ?_) ?_
  go_simp; (
   (with_reducible refine (ks1 _).mono ?_)
   rintro e wJKRS ⟨ua, ub, rfl, t2⟩
   obtain ⟨A1, n1, rfl, _, _⟩ := own_form t2.own
   obtain ⟨A2, n2, rfl, _, _⟩ := own_form t2.tail.own
   have yJKRS := yJKR.join t2
   have ltJ := (yJKRS.tail.tail).blk.lt
   have neJ : ¬ (wJKRS.heap.size = w5.heap.size) := Nat.ne_of_gt ltJ
   obtain ⟨_, _, _, _, _, _⟩ := bk3 yJKRS.tail.tail.blk); go_wp2_with fail
  refine hK.out _ _ trivial fun hH85 => ?_
  clear hK K hH84
  try simp only [pu]
  refine tk 6 33 hH85 ?_
  refine tk 7 40 hH85 ?_
  refine tk 8 41 hH85 ?_
  refine tk 9 42 hH85 ?_
  refine rdy [10] ?_
  refine an 4 fun K hK => ?_
  go_simp
  refine hK.out _ _ trivial fun hH86 => ?_
  clear hK K hH85
  try simp only [pu]
  refine rdy [12] ?_
  refine az fun K hK => ?_
  go_simp
  refine hK.out _ _ trivial fun hH87 => ?_
  clear hK K hH86
  try simp only [pu]
  refine rdy [13] ?_
  refine az fun K hK => ?_
  go_simp
  refine hK.out _ _ trivial fun hH88 => ?_
  clear hK K hH87
  try simp only [pu]
  refine tk 14 6 hH88 ?_
  refine dn ?_ _
  rotate_left 1
  refine an 4 fun K hK => ?_
  go_simp
  refine hK.out _ _ trivial fun hH89 => ?_
  clear hK K hH84
  try simp only [pu]
  refine rdy [5] ?_
  refine an 39 fun K hK => ?_
  go_simp; (
   (with_reducible refine (ks1 _).mono ?_)
   rintro e wJKRGS ⟨ua, ub, rfl, t2⟩
   obtain ⟨A1, n1, rfl, _, _⟩ := own_form t2.own
   obtain ⟨A2, n2, rfl, _, _⟩ := own_form t2.tail.own
   have yJKRGS := (yJKR.alloc 32 #[.string ⟨#[]⟩, .int .i64 0, .string ⟨#[]⟩, .int .i64 0, .slice none 0 0, .slice none 0 0, .slice none 0 0]).join t2
   try simp only [World.size_alloc] at yJKRGS
   have ltG := (yJKRGS.tail.tail).blk.lt
   have neG : ¬ (wJKRGS.heap.size = wJKR.heap.size) := Nat.ne_of_gt ltG
   have ltJ := (yJKRGS.tail.tail.tail).blk.lt
   have neJ : ¬ (wJKRGS.heap.size = w5.heap.size) := Nat.ne_of_gt ltJ
   have ltJG : w5.heap.size < wJKR.heap.size := by first | exact (yJKR).blk.lt | (have := (yJKR).blk.lt; simp only [World.size_alloc] at this; exact this) | (have := (yJKR).blk.lt; simp only [World.size_drew, World.size_alloc] at this; exact this)
   have neJG : ¬ (w5.heap.size = wJKR.heap.size) := Nat.ne_of_lt ltJG
   have neGJ : ¬ (wJKR.heap.size = w5.heap.size) := Nat.ne_of_gt ltJG
   obtain ⟨_, _, _, _, _, _, _, _, _, _, _, _, _, _⟩ := bk7 yJKRGS.tail.tail.blk
   obtain ⟨_, _, _, _, _, _⟩ := bk3 yJKRGS.tail.tail.tail.blk); go_wp2_with fail
  refine hK.out _ _ trivial fun hH90 => ?_
  clear hK K hH89
  try simp only [pu]
  refine tk 6 33 hH90 ?_
  refine tk 7 40 hH90 ?_
  refine tk 8 41 hH90 ?_
  refine tk 9 42 hH90 ?_
  refine rdy [12] ?_
  refine az fun K hK => ?_
  go_simp
  refine hK.out _ _ trivial fun hH91 => ?_
  clear hK K hH90
  try simp only [pu]
  refine rdy [13] ?_
  refine az fun K hK => ?_
  go_simp
  refine hK.out _ _ trivial fun hH92 => ?_
  clear hK K hH91
  try simp only [pu]
  refine tk 14 6 hH92 ?_
  refine dn ?_ _
  rotate_left 1
  refine an 4 fun K hK => ?_
  go_simp
  refine hK.out _ _ trivial fun hH93 => ?_
  clear hK K hH83
  try simp only [pu]
  refine rdy [3] ?_
  refine an 37 fun K hK => ?_
  go_simp; (
   (with_reducible refine (kr2 _ _ (rd_strs3 ((yJK.alloc 32 #[.string ⟨#[]⟩, .int .i64 0, .string ⟨#[]⟩, .int .i64 0, .slice none 0 0, .slice none 0 0, .slice none 0 0]).tail.tail.blk))).mono ?_)
   rintro e wJKGR ⟨rfl, bR⟩
   have yJKGR := (yJK.alloc 32 #[.string ⟨#[]⟩, .int .i64 0, .string ⟨#[]⟩, .int .i64 0, .slice none 0 0, .slice none 0 0, .slice none 0 0]).under bR
   try simp only [World.size_alloc] at yJKGR); go_wp2_with fail
  refine hK.out _ _ trivial fun hH94 => ?_
  clear hK K hH93
  try simp only [pu]
  refine tk 4 38 hH94 ?_
  refine rdy [5] ?_
  refine an 39 fun K hK => ?_
  go_simp; (
   (with_reducible refine (ks1 _).mono ?_)
   rintro e wJKGRS ⟨ua, ub, rfl, t2⟩
   obtain ⟨A1, n1, rfl, _, _⟩ := own_form t2.own
   obtain ⟨A2, n2, rfl, _, _⟩ := own_form t2.tail.own
   have yJKGRS := yJKGR.join t2
   try simp only [World.size_alloc] at yJKGRS
   have ltG := (yJKGRS.tail.tail).blk.lt
   have neG : ¬ (wJKGRS.heap.size = wJK.heap.size) := Nat.ne_of_gt ltG
   have ltJ := (yJKGRS.tail.tail.tail).blk.lt
   have neJ : ¬ (wJKGRS.heap.size = w5.heap.size) := Nat.ne_of_gt ltJ
   have ltJG : w5.heap.size < wJK.heap.size := by first | exact (yJK).blk.lt | (have := (yJK).blk.lt; simp only [World.size_alloc] at this; exact this) | (have := (yJK).blk.lt; simp only [World.size_drew, World.size_alloc] at this; exact this)
   have neJG : ¬ (w5.heap.size = wJK.heap.size) := Nat.ne_of_lt ltJG
   have neGJ : ¬ (wJK.heap.size = w5.heap.size) := Nat.ne_of_gt ltJG
   obtain ⟨_, _, _, _, _, _, _, _, _, _, _, _, _, _⟩ := bk7 yJKGRS.tail.tail.blk
   obtain ⟨_, _, _, _, _, _⟩ := bk3 yJKGRS.tail.tail.tail.blk); go_wp2_with fail
  refine hK.out _ _ trivial fun hH95 => ?_
  clear hK K hH94
  try simp only [pu]
  refine tk 6 33 hH95 ?_
  refine tk 7 40 hH95 ?_
  refine tk 8 41 hH95 ?_
  refine tk 9 42 hH95 ?_
  refine rdy [12] ?_
  refine az fun K hK => ?_
  go_simp
  refine hK.out _ _ trivial fun hH96 => ?_
  clear hK K hH95
  try simp only [pu]
  refine rdy [13] ?_
  refine az fun K hK => ?_
  go_simp
  refine hK.out _ _ trivial fun hH97 => ?_
  clear hK K hH96
  try simp only [pu]
  refine tk 14 6 hH97 ?_
  refine dn ?_ _
  rotate_left 1
  refine an 4 fun K hK => ?_
  go_simp
  refine hK.out _ _ trivial fun hH98 => ?_
  clear hK K hH82
  try simp only [pu]
  refine rdy [0] ?_
  refine an 34 fun K hK => ?_
  go_simp; (
   (with_reducible refine (kr _).mono ?_)
   rintro e wJGK ⟨rfl, bK⟩
   have yJGK := ((y5.alloc 23 #[.string ⟨#[]⟩, .int .i64 0, .int .i64 0]).alloc 32 #[.string ⟨#[]⟩, .int .i64 0, .string ⟨#[]⟩, .int .i64 0, .slice none 0 0, .slice none 0 0, .slice none 0 0]).drew.under bK
   try simp only [World.size_alloc] at yJGK); go_wp2_with fail
  refine hK.out _ _ trivial fun hH99 => ?_
  clear hK K hH98
  try simp only [pu]
  refine rdy [3] ?_
  refine an 37 fun K hK => ?_
  go_simp; (
   (with_reducible refine (kr2 _ _ (rd_strs3 (yJGK.tail.tail.blk))).mono ?_)
   rintro e wJGKR ⟨rfl, bR⟩
   have yJGKR := yJGK.under bR
   try simp only [World.size_alloc] at yJGKR); go_wp2_with fail
  refine hK.out _ _ trivial fun hH100 => ?_
  clear hK K hH99
  try simp only [pu]
  refine tk 4 38 hH100 ?_
  refine rdy [5] ?_
  refine an 39 fun K hK => ?_
  go_simp; (
   (with_reducible refine (ks1 _).mono ?_)
   rintro e wJGKRS ⟨ua, ub, rfl, t2⟩
   obtain ⟨A1, n1, rfl, _, _⟩ := own_form t2.own
   obtain ⟨A2, n2, rfl, _, _⟩ := own_form t2.tail.own
   have yJGKRS := yJGKR.join t2
   try simp only [World.size_alloc] at yJGKRS
   have ltG := (yJGKRS.tail.tail).blk.lt
   have neG : ¬ (wJGKRS.heap.size = w5.heap.size + 1) := Nat.ne_of_gt ltG
   have ltJ := (yJGKRS.tail.tail.tail).blk.lt
   have neJ : ¬ (wJGKRS.heap.size = w5.heap.size) := Nat.ne_of_gt ltJ
   have ltJG : w5.heap.size < w5.heap.size + 1 := by first | exact ((y5.alloc 23 #[.string ⟨#[]⟩, .int .i64 0, .int .i64 0]).drew).blk.lt | (have := ((y5.alloc 23 #[.string ⟨#[]⟩, .int .i64 0, .int .i64 0]).drew).blk.lt; simp only [World.size_alloc] at this; exact this) | (have := ((y5.alloc 23 #[.string ⟨#[]⟩, .int .i64 0, .int .i64 0]).drew).blk.lt; simp only [World.size_drew, World.size_alloc] at this; exact this)
   have neJG : ¬ (w5.heap.size = w5.heap.size + 1) := Nat.ne_of_lt ltJG
   have neGJ : ¬ (w5.heap.size + 1 = w5.heap.size) := Nat.ne_of_gt ltJG
   obtain ⟨_, _, _, _, _, _, _, _, _, _, _, _, _, _⟩ := bk7 yJGKRS.tail.tail.blk
   obtain ⟨_, _, _, _, _, _⟩ := bk3 yJGKRS.tail.tail.tail.blk); go_wp2_with fail
  refine hK.out _ _ trivial fun hH101 => ?_
  clear hK K hH100
  try simp only [pu]
  refine tk 6 33 hH101 ?_
  refine tk 7 40 hH101 ?_
  refine tk 8 41 hH101 ?_
  refine tk 9 42 hH101 ?_
  refine rdy [12] ?_
  refine az fun K hK => ?_
  go_simp
  refine hK.out _ _ trivial fun hH102 => ?_
  clear hK K hH101
  try simp only [pu]
  refine rdy [13] ?_
  refine az fun K hK => ?_
  go_simp
  refine hK.out _ _ trivial fun hH103 => ?_
  clear hK K hH102
  try simp only [pu]
  refine tk 14 6 hH103 ?_
  refine dn ?_ _
  all_goals (refine NoPanic.normal ?_)
  all_goals
   first
    | (have yF := ((yKRS.alloc 32 #[.string ⟨#[108, 111, 103]⟩, .int .i64 2, .string ⟨R2.toArray⟩, .int .i64 0, .slice A1 cA.length n1, .slice A2 tA.length n2, .slice none 0 0]).alloc 23 #[.string ⟨SR.toArray⟩, .int .i64 1, .int .i64 1]).pk [1, 0, 2, 3, 4]
       try simp only [ws] at yF
       obtain ⟨pJ, hpJ⟩ : ∃ q, wKRS.heap.size + 1 = q := ⟨_, rfl⟩
       rw [hpJ] at yF ⊢
       obtain ⟨pG, hpG⟩ : ∃ q, wKRS.heap.size = q := ⟨_, rfl⟩
       rw [hpG] at yF ⊢
       exact ⟨rfl, pG, pJ, A1, A2, n1, n2, rfl, yF⟩)
    | (have yF := ((yKRS.alloc 23 #[.string ⟨SR.toArray⟩, .int .i64 1, .int .i64 1]).alloc 32 #[.string ⟨#[108, 111, 103]⟩, .int .i64 2, .string ⟨R2.toArray⟩, .int .i64 0, .slice A1 cA.length n1, .slice A2 tA.length n2, .slice none 0 0]).pk [0, 1, 2, 3, 4]
       try simp only [ws] at yF
       obtain ⟨pG, hpG⟩ : ∃ q, wKRS.heap.size + 1 = q := ⟨_, rfl⟩
       rw [hpG] at yF ⊢
       obtain ⟨pJ, hpJ⟩ : ∃ q, wKRS.heap.size = q := ⟨_, rfl⟩
       rw [hpJ] at yF ⊢
       exact ⟨rfl, pG, pJ, A1, A2, n1, n2, rfl, yF⟩)
    | (have yF := (((((((((yKRGS.pk [2, 0, 1, 3]).set_ 0 (.string ⟨#[108, 111, 103]⟩)).set_ 1 (.int .i64 2)).set_ 2 (.string ⟨R2.toArray⟩)).set_ 3 (.int .i64 0)).set_ 4 (.slice A1 cA.length n1)).set_ 5 (.slice A2 tA.length n2)).set_ 6 (.slice none 0 0)).alloc 23 #[.string ⟨SR.toArray⟩, .int .i64 1, .int .i64 1]).pk [1, 0, 2, 3, 4]
       try simp only [ws] at yF
       obtain ⟨pJ, hpJ⟩ : ∃ q, wKRGS.heap.size = q := ⟨_, rfl⟩
       rw [hpJ] at yF ⊢
       obtain ⟨pG, hpG⟩ : ∃ q, wKR.heap.size = q := ⟨_, rfl⟩
       rw [hpG] at yF ⊢
       exact ⟨rfl, pG, pJ, A1, A2, n1, n2, rfl, yF⟩)
    | (have yF := ((((((((((((yKRGJS.pk [3, 0, 1, 2, 4]).set_ 0 (.string ⟨#[108, 111, 103]⟩)).set_ 1 (.int .i64 2)).set_ 2 (.string ⟨R2.toArray⟩)).set_ 3 (.int .i64 0)).set_ 4 (.slice A1 cA.length n1)).set_ 5 (.slice A2 tA.length n2)).set_ 6 (.slice none 0 0)).pk [3, 0, 1, 2, 4]).set_ 0 (.string ⟨SR.toArray⟩)).set_ 1 (.int .i64 1)).set_ 2 (.int .i64 1)).pk [1, 0, 2, 3, 4]
       try simp only [ws] at yF
       obtain ⟨pJ, hpJ⟩ : ∃ q, wKR.heap.size + 1 = q := ⟨_, rfl⟩
       rw [hpJ] at yF ⊢
       obtain ⟨pG, hpG⟩ : ∃ q, wKR.heap.size = q := ⟨_, rfl⟩
       rw [hpG] at yF ⊢
       exact ⟨rfl, pG, pJ, A1, A2, n1, n2, rfl, yF⟩)
    | (have yF := (((((yKRJS.pk [2, 0, 1, 3]).set_ 0 (.string ⟨SR.toArray⟩)).set_ 1 (.int .i64 1)).set_ 2 (.int .i64 1)).alloc 32 #[.string ⟨#[108, 111, 103]⟩, .int .i64 2, .string ⟨R2.toArray⟩, .int .i64 0, .slice A1 cA.length n1, .slice A2 tA.length n2, .slice none 0 0]).pk [0, 1, 2, 3, 4]
       try simp only [ws] at yF
       obtain ⟨pG, hpG⟩ : ∃ q, wKRJS.heap.size = q := ⟨_, rfl⟩
       rw [hpG] at yF ⊢
       obtain ⟨pJ, hpJ⟩ : ∃ q, wKR.heap.size = q := ⟨_, rfl⟩
       rw [hpJ] at yF ⊢
       exact ⟨rfl, pG, pJ, A1, A2, n1, n2, rfl, yF⟩)
    | (have yF := ((((((((((((yKRJGS.pk [2, 0, 1, 3, 4]).set_ 0 (.string ⟨#[108, 111, 103]⟩)).set_ 1 (.int .i64 2)).set_ 2 (.string ⟨R2.toArray⟩)).set_ 3 (.int .i64 0)).set_ 4 (.slice A1 cA.length n1)).set_ 5 (.slice A2 tA.length n2)).set_ 6 (.slice none 0 0)).pk [3, 0, 1, 2, 4]).set_ 0 (.string ⟨SR.toArray⟩)).set_ 1 (.int .i64 1)).set_ 2 (.int .i64 1)).pk [1, 0, 2, 3, 4]
       try simp only [ws] at yF
       obtain ⟨pG, hpG⟩ : ∃ q, wKR.heap.size + 1 = q := ⟨_, rfl⟩
       rw [hpG] at yF ⊢
       obtain ⟨pJ, hpJ⟩ : ∃ q, wKR.heap.size = q := ⟨_, rfl⟩
       rw [hpJ] at yF ⊢
       exact ⟨rfl, pG, pJ, A1, A2, n1, n2, rfl, yF⟩)
    | (have yF := (((((((((yKGRS.pk [2, 0, 1, 3]).set_ 0 (.string ⟨#[108, 111, 103]⟩)).set_ 1 (.int .i64 2)).set_ 2 (.string ⟨R2.toArray⟩)).set_ 3 (.int .i64 0)).set_ 4 (.slice A1 cA.length n1)).set_ 5 (.slice A2 tA.length n2)).set_ 6 (.slice none 0 0)).alloc 23 #[.string ⟨SR.toArray⟩, .int .i64 1, .int .i64 1]).pk [1, 0, 2, 3, 4]
       try simp only [ws] at yF
       obtain ⟨pJ, hpJ⟩ : ∃ q, wKGRS.heap.size = q := ⟨_, rfl⟩
       rw [hpJ] at yF ⊢
       obtain ⟨pG, hpG⟩ : ∃ q, wK.heap.size = q := ⟨_, rfl⟩
       rw [hpG] at yF ⊢
       exact ⟨rfl, pG, pJ, A1, A2, n1, n2, rfl, yF⟩)
    | (have yF := ((((((((((((yKGRJS.pk [3, 0, 1, 2, 4]).set_ 0 (.string ⟨#[108, 111, 103]⟩)).set_ 1 (.int .i64 2)).set_ 2 (.string ⟨R2.toArray⟩)).set_ 3 (.int .i64 0)).set_ 4 (.slice A1 cA.length n1)).set_ 5 (.slice A2 tA.length n2)).set_ 6 (.slice none 0 0)).pk [3, 0, 1, 2, 4]).set_ 0 (.string ⟨SR.toArray⟩)).set_ 1 (.int .i64 1)).set_ 2 (.int .i64 1)).pk [1, 0, 2, 3, 4]
       try simp only [ws] at yF
       obtain ⟨pJ, hpJ⟩ : ∃ q, wKGR.heap.size = q := ⟨_, rfl⟩
       rw [hpJ] at yF ⊢
       obtain ⟨pG, hpG⟩ : ∃ q, wK.heap.size = q := ⟨_, rfl⟩
       rw [hpG] at yF ⊢
       exact ⟨rfl, pG, pJ, A1, A2, n1, n2, rfl, yF⟩)
    | (have yF := ((((((((((((yKGJRS.pk [3, 0, 1, 2, 4]).set_ 0 (.string ⟨#[108, 111, 103]⟩)).set_ 1 (.int .i64 2)).set_ 2 (.string ⟨R2.toArray⟩)).set_ 3 (.int .i64 0)).set_ 4 (.slice A1 cA.length n1)).set_ 5 (.slice A2 tA.length n2)).set_ 6 (.slice none 0 0)).pk [3, 0, 1, 2, 4]).set_ 0 (.string ⟨SR.toArray⟩)).set_ 1 (.int .i64 1)).set_ 2 (.int .i64 1)).pk [1, 0, 2, 3, 4]
       try simp only [ws] at yF
       obtain ⟨pJ, hpJ⟩ : ∃ q, wK.heap.size + 1 = q := ⟨_, rfl⟩
       rw [hpJ] at yF ⊢
       obtain ⟨pG, hpG⟩ : ∃ q, wK.heap.size = q := ⟨_, rfl⟩
       rw [hpG] at yF ⊢
       exact ⟨rfl, pG, pJ, A1, A2, n1, n2, rfl, yF⟩)
    | (have yF := (((((yKJRS.pk [2, 0, 1, 3]).set_ 0 (.string ⟨SR.toArray⟩)).set_ 1 (.int .i64 1)).set_ 2 (.int .i64 1)).alloc 32 #[.string ⟨#[108, 111, 103]⟩, .int .i64 2, .string ⟨R2.toArray⟩, .int .i64 0, .slice A1 cA.length n1, .slice A2 tA.length n2, .slice none 0 0]).pk [0, 1, 2, 3, 4]
       try simp only [ws] at yF
       obtain ⟨pG, hpG⟩ : ∃ q, wKJRS.heap.size = q := ⟨_, rfl⟩
       rw [hpG] at yF ⊢
       obtain ⟨pJ, hpJ⟩ : ∃ q, wK.heap.size = q := ⟨_, rfl⟩
       rw [hpJ] at yF ⊢
       exact ⟨rfl, pG, pJ, A1, A2, n1, n2, rfl, yF⟩)
    | (have yF := ((((((((((((yKJRGS.pk [2, 0, 1, 3, 4]).set_ 0 (.string ⟨#[108, 111, 103]⟩)).set_ 1 (.int .i64 2)).set_ 2 (.string ⟨R2.toArray⟩)).set_ 3 (.int .i64 0)).set_ 4 (.slice A1 cA.length n1)).set_ 5 (.slice A2 tA.length n2)).set_ 6 (.slice none 0 0)).pk [3, 0, 1, 2, 4]).set_ 0 (.string ⟨SR.toArray⟩)).set_ 1 (.int .i64 1)).set_ 2 (.int .i64 1)).pk [1, 0, 2, 3, 4]
       try simp only [ws] at yF
       obtain ⟨pG, hpG⟩ : ∃ q, wKJR.heap.size = q := ⟨_, rfl⟩
       rw [hpG] at yF ⊢
       obtain ⟨pJ, hpJ⟩ : ∃ q, wK.heap.size = q := ⟨_, rfl⟩
       rw [hpJ] at yF ⊢
       exact ⟨rfl, pG, pJ, A1, A2, n1, n2, rfl, yF⟩)
    | (have yF := ((((((((((((yKJGRS.pk [2, 0, 1, 3, 4]).set_ 0 (.string ⟨#[108, 111, 103]⟩)).set_ 1 (.int .i64 2)).set_ 2 (.string ⟨R2.toArray⟩)).set_ 3 (.int .i64 0)).set_ 4 (.slice A1 cA.length n1)).set_ 5 (.slice A2 tA.length n2)).set_ 6 (.slice none 0 0)).pk [3, 0, 1, 2, 4]).set_ 0 (.string ⟨SR.toArray⟩)).set_ 1 (.int .i64 1)).set_ 2 (.int .i64 1)).pk [1, 0, 2, 3, 4]
       try simp only [ws] at yF
       obtain ⟨pG, hpG⟩ : ∃ q, wK.heap.size + 1 = q := ⟨_, rfl⟩
       rw [hpG] at yF ⊢
       obtain ⟨pJ, hpJ⟩ : ∃ q, wK.heap.size = q := ⟨_, rfl⟩
       rw [hpJ] at yF ⊢
       exact ⟨rfl, pG, pJ, A1, A2, n1, n2, rfl, yF⟩)
    | (have yF := (((((((((yGKRS.pk [2, 0, 1, 3]).set_ 0 (.string ⟨#[108, 111, 103]⟩)).set_ 1 (.int .i64 2)).set_ 2 (.string ⟨R2.toArray⟩)).set_ 3 (.int .i64 0)).set_ 4 (.slice A1 cA.length n1)).set_ 5 (.slice A2 tA.length n2)).set_ 6 (.slice none 0 0)).alloc 23 #[.string ⟨SR.toArray⟩, .int .i64 1, .int .i64 1]).pk [1, 0, 2, 3, 4]
       try simp only [ws] at yF
       obtain ⟨pJ, hpJ⟩ : ∃ q, wGKRS.heap.size = q := ⟨_, rfl⟩
       rw [hpJ] at yF ⊢
       obtain ⟨pG, hpG⟩ : ∃ q, w5.heap.size = q := ⟨_, rfl⟩
       rw [hpG] at yF ⊢
       exact ⟨rfl, pG, pJ, A1, A2, n1, n2, rfl, yF⟩)
    | (have yF := ((((((((((((yGKRJS.pk [3, 0, 1, 2, 4]).set_ 0 (.string ⟨#[108, 111, 103]⟩)).set_ 1 (.int .i64 2)).set_ 2 (.string ⟨R2.toArray⟩)).set_ 3 (.int .i64 0)).set_ 4 (.slice A1 cA.length n1)).set_ 5 (.slice A2 tA.length n2)).set_ 6 (.slice none 0 0)).pk [3, 0, 1, 2, 4]).set_ 0 (.string ⟨SR.toArray⟩)).set_ 1 (.int .i64 1)).set_ 2 (.int .i64 1)).pk [1, 0, 2, 3, 4]
       try simp only [ws] at yF
       obtain ⟨pJ, hpJ⟩ : ∃ q, wGKR.heap.size = q := ⟨_, rfl⟩
       rw [hpJ] at yF ⊢
       obtain ⟨pG, hpG⟩ : ∃ q, w5.heap.size = q := ⟨_, rfl⟩
       rw [hpG] at yF ⊢
       exact ⟨rfl, pG, pJ, A1, A2, n1, n2, rfl, yF⟩)
    | (have yF := ((((((((((((yGKJRS.pk [3, 0, 1, 2, 4]).set_ 0 (.string ⟨#[108, 111, 103]⟩)).set_ 1 (.int .i64 2)).set_ 2 (.string ⟨R2.toArray⟩)).set_ 3 (.int .i64 0)).set_ 4 (.slice A1 cA.length n1)).set_ 5 (.slice A2 tA.length n2)).set_ 6 (.slice none 0 0)).pk [3, 0, 1, 2, 4]).set_ 0 (.string ⟨SR.toArray⟩)).set_ 1 (.int .i64 1)).set_ 2 (.int .i64 1)).pk [1, 0, 2, 3, 4]
       try simp only [ws] at yF
       obtain ⟨pJ, hpJ⟩ : ∃ q, wGK.heap.size = q := ⟨_, rfl⟩
       rw [hpJ] at yF ⊢
       obtain ⟨pG, hpG⟩ : ∃ q, w5.heap.size = q := ⟨_, rfl⟩
       rw [hpG] at yF ⊢
       exact ⟨rfl, pG, pJ, A1, A2, n1, n2, rfl, yF⟩)
    | (have yF := ((((((((((((yGJKRS.pk [3, 0, 1, 2, 4]).set_ 0 (.string ⟨#[108, 111, 103]⟩)).set_ 1 (.int .i64 2)).set_ 2 (.string ⟨R2.toArray⟩)).set_ 3 (.int .i64 0)).set_ 4 (.slice A1 cA.length n1)).set_ 5 (.slice A2 tA.length n2)).set_ 6 (.slice none 0 0)).pk [3, 0, 1, 2, 4]).set_ 0 (.string ⟨SR.toArray⟩)).set_ 1 (.int .i64 1)).set_ 2 (.int .i64 1)).pk [1, 0, 2, 3, 4]
       try simp only [ws] at yF
       obtain ⟨pJ, hpJ⟩ : ∃ q, w5.heap.size + 1 = q := ⟨_, rfl⟩
       rw [hpJ] at yF ⊢
       obtain ⟨pG, hpG⟩ : ∃ q, w5.heap.size = q := ⟨_, rfl⟩
       rw [hpG] at yF ⊢
       exact ⟨rfl, pG, pJ, A1, A2, n1, n2, rfl, yF⟩)
    | (have yF := (((((yJKRS.pk [2, 0, 1, 3]).set_ 0 (.string ⟨SR.toArray⟩)).set_ 1 (.int .i64 1)).set_ 2 (.int .i64 1)).alloc 32 #[.string ⟨#[108, 111, 103]⟩, .int .i64 2, .string ⟨R2.toArray⟩, .int .i64 0, .slice A1 cA.length n1, .slice A2 tA.length n2, .slice none 0 0]).pk [0, 1, 2, 3, 4]
       try simp only [ws] at yF
       obtain ⟨pG, hpG⟩ : ∃ q, wJKRS.heap.size = q := ⟨_, rfl⟩
       rw [hpG] at yF ⊢
       obtain ⟨pJ, hpJ⟩ : ∃ q, w5.heap.size = q := ⟨_, rfl⟩
       rw [hpJ] at yF ⊢
       exact ⟨rfl, pG, pJ, A1, A2, n1, n2, rfl, yF⟩)
    | (have yF := ((((((((((((yJKRGS.pk [2, 0, 1, 3, 4]).set_ 0 (.string ⟨#[108, 111, 103]⟩)).set_ 1 (.int .i64 2)).set_ 2 (.string ⟨R2.toArray⟩)).set_ 3 (.int .i64 0)).set_ 4 (.slice A1 cA.length n1)).set_ 5 (.slice A2 tA.length n2)).set_ 6 (.slice none 0 0)).pk [3, 0, 1, 2, 4]).set_ 0 (.string ⟨SR.toArray⟩)).set_ 1 (.int .i64 1)).set_ 2 (.int .i64 1)).pk [1, 0, 2, 3, 4]
       try simp only [ws] at yF
       obtain ⟨pG, hpG⟩ : ∃ q, wJKR.heap.size = q := ⟨_, rfl⟩
       rw [hpG] at yF ⊢
       obtain ⟨pJ, hpJ⟩ : ∃ q, w5.heap.size = q := ⟨_, rfl⟩
       rw [hpJ] at yF ⊢
       exact ⟨rfl, pG, pJ, A1, A2, n1, n2, rfl, yF⟩)
    | (have yF := ((((((((((((yJKGRS.pk [2, 0, 1, 3, 4]).set_ 0 (.string ⟨#[108, 111, 103]⟩)).set_ 1 (.int .i64 2)).set_ 2 (.string ⟨R2.toArray⟩)).set_ 3 (.int .i64 0)).set_ 4 (.slice A1 cA.length n1)).set_ 5 (.slice A2 tA.length n2)).set_ 6 (.slice none 0 0)).pk [3, 0, 1, 2, 4]).set_ 0 (.string ⟨SR.toArray⟩)).set_ 1 (.int .i64 1)).set_ 2 (.int .i64 1)).pk [1, 0, 2, 3, 4]
       try simp only [ws] at yF
       obtain ⟨pG, hpG⟩ : ∃ q, wJK.heap.size = q := ⟨_, rfl⟩
       rw [hpG] at yF ⊢
       obtain ⟨pJ, hpJ⟩ : ∃ q, w5.heap.size = q := ⟨_, rfl⟩
       rw [hpJ] at yF ⊢
       exact ⟨rfl, pG, pJ, A1, A2, n1, n2, rfl, yF⟩)
    | (have yF := ((((((((((((yJGKRS.pk [2, 0, 1, 3, 4]).set_ 0 (.string ⟨#[108, 111, 103]⟩)).set_ 1 (.int .i64 2)).set_ 2 (.string ⟨R2.toArray⟩)).set_ 3 (.int .i64 0)).set_ 4 (.slice A1 cA.length n1)).set_ 5 (.slice A2 tA.length n2)).set_ 6 (.slice none 0 0)).pk [3, 0, 1, 2, 4]).set_ 0 (.string ⟨SR.toArray⟩)).set_ 1 (.int .i64 1)).set_ 2 (.int .i64 1)).pk [1, 0, 2, 3, 4]
       try simp only [ws] at yF
       obtain ⟨pG, hpG⟩ : ∃ q, w5.heap.size + 1 = q := ⟨_, rfl⟩
       rw [hpG] at yF ⊢
       obtain ⟨pJ, hpJ⟩ : ∃ q, w5.heap.size = q := ⟨_, rfl⟩
       rw [hpJ] at yF ⊢
       exact ⟨rfl, pG, pJ, A1, A2, n1, n2, rfl, yF⟩)
 case k =>
  rintro pa ka A1 A2 n1 n2 w6 y6
  have hS : ∀ W', Blk W' ka 23 #[.string ⟨SR.toArray⟩, .int .i64 1, .int .i64 1] → (W'.cell? ⟨ka, 0, none⟩ = some (.string ⟨SR.toArray⟩) ∧ W'.cell? ⟨ka, 1, none⟩ = some (.int .i64 1) ∧ W'.cell? ⟨ka, 2, none⟩ = some (.int .i64 1)) := fun W' hh => ⟨hh.cell 0, hh.cell 1, hh.cell 2⟩
  obtain ⟨uA1, uA2⟩ : cA.length ≤ n1 ∧ n1 ≤ maxLen := by (obtain ⟨_, _, e, q1, q2⟩ := own_form y6.tail.tail.own; injection e with _ _ e; subst e; exact ⟨q1, q2⟩)
  obtain ⟨uA3, uA4⟩ : tA.length ≤ n2 ∧ n2 ≤ maxLen := by (obtain ⟨_, _, e, q1, q2⟩ := own_form y6.tail.tail.tail.own; injection e with _ _ e; subst e; exact ⟨q1, q2⟩)
  have UA := Lib.hid (And.intro uA1 (And.intro uA2 (And.intro uA3 uA4)))
  clear uA1 uA2 uA3 uA4 y5 kr2 ks1
  go_wp2_with fail
  apply region_via6 (fun (pb kb : Nat) (A3 A4 : Option Addr) (n3 n4 : Nat) w' => St w.heap.size w w' [cellsR (pb) 32 #[.string ⟨#[108, 111, 103]⟩, .int .i64 3, .string ⟨R3.toArray⟩, .int .i64 1, .slice A3 cB.length n3, .slice A4 tB.length n4, .slice none 0 0], cellsR (kb) 23 #[.string ⟨SR.toArray⟩, .int .i64 1, .int .i64 2], ownR 9 1 (.slice A3 cB.length n3) cB.length (strs cB), ownR 9 1 (.slice A4 tB.length n4) tB.length (strs tB), cellsR (pa) 32 #[.string ⟨#[108, 111, 103]⟩, .int .i64 2, .string ⟨R2.toArray⟩, .int .i64 0, .slice A1 cA.length n1, .slice A2 tA.length n2, .slice none 0 0], cellsR (ka) 23 #[.string ⟨SR.toArray⟩, .int .i64 1, .int .i64 1], ownR 9 1 (.slice A1 cA.length n1) cA.length (strs cA), ownR 9 1 (.slice A2 tA.length n2) tA.length (strs tA), cellsR (g) 9 #[.string ⟨la.toArray⟩, .string ⟨lb.toArray⟩, .string ⟨lc.toArray⟩]])
  case h =>
   have q0 := y6.drew
   have sf := hS _ (q0.tail.blk)
   clear q0
   have qG0 := (y6.alloc 32 #[.string ⟨#[]⟩, .int .i64 0, .string ⟨#[]⟩, .int .i64 0, .slice none 0 0, .slice none 0 0, .slice none 0 0]).drew
   have sfG := hS _ (qG0.tail.tail.blk)
   clear qG0
   have qGJ0 := ((y6.alloc 32 #[.string ⟨#[]⟩, .int .i64 0, .string ⟨#[]⟩, .int .i64 0, .slice none 0 0, .slice none 0 0, .slice none 0 0]).alloc 23 #[.string ⟨#[]⟩, .int .i64 0, .int .i64 0]).drew
   have sfGJ := hS _ (qGJ0.tail.tail.tail.blk)
   clear qGJ0
   have qJ0 := (y6.alloc 23 #[.string ⟨#[]⟩, .int .i64 0, .int .i64 0]).drew
   have sfJ := hS _ (qJ0.tail.tail.blk)
   clear qJ0
   have qJG0 := ((y6.alloc 23 #[.string ⟨#[]⟩, .int .i64 0, .int .i64 0]).alloc 32 #[.string ⟨#[]⟩, .int .i64 0, .string ⟨#[]⟩, .int .i64 0, .slice none 0 0, .slice none 0 0, .slice none 0 0]).drew
   have sfJG := hS _ (qJG0.tail.tail.tail.blk)
   clear qJG0
   refine wp_region_noPanic ?_
   refine wp_region_held_drew (S := (fun W' => W'.cell? ⟨ka, 0, none⟩ = some (.string ⟨SR.toArray⟩) ∧ W'.cell? ⟨ka, 1, none⟩ = some (.int .i64 1) ∧ W'.cell? ⟨ka, 2, none⟩ = some (.int .i64 1))) (by kernel_rfl) ?_ (fun hH0 => ?_)
   ·with_reducible exact sf
   refine tk 0 44 hH0 ?_
   refine tk 1 45 hH0 ?_
   refine rdy [2, 9, 10] ?_
   refine ad 46 (fun K hK => ?_) ?_
   go_simp; (
    (with_reducible refine (kr3 _ _ (rd_strs3 (y6.drew.tail.tail.tail.tail.blk))).mono ?_)
    rintro e wR ⟨rfl, bR⟩
    have yR := y6.drew.under bR
    have sfR := hS _ (yR.tail.blk)
    have qRG0 := (yR.alloc 32 #[.string ⟨#[]⟩, .int .i64 0, .string ⟨#[]⟩, .int .i64 0, .slice none 0 0, .slice none 0 0, .slice none 0 0])
    have sfRG := hS _ (qRG0.tail.tail.blk)
    clear qRG0
    have qRGJ0 := ((yR.alloc 32 #[.string ⟨#[]⟩, .int .i64 0, .string ⟨#[]⟩, .int .i64 0, .slice none 0 0, .slice none 0 0, .slice none 0 0]).alloc 23 #[.string ⟨#[]⟩, .int .i64 0, .int .i64 0])
    have sfRGJ := hS _ (qRGJ0.tail.tail.tail.blk)
    clear qRGJ0
    have qRJ0 := (yR.alloc 23 #[.string ⟨#[]⟩, .int .i64 0, .int .i64 0])
    have sfRJ := hS _ (qRJ0.tail.tail.blk)
    clear qRJ0
    have qRJG0 := ((yR.alloc 23 #[.string ⟨#[]⟩, .int .i64 0, .int .i64 0]).alloc 32 #[.string ⟨#[]⟩, .int .i64 0, .string ⟨#[]⟩, .int .i64 0, .slice none 0 0, .slice none 0 0, .slice none 0 0])
    have sfRJG := hS _ (qRJG0.tail.tail.tail.blk)
    clear qRJG0); go_wp2_with fail
   refine hK.out _ _ (by with_reducible exact sfR) fun hH1 => ?_
   clear hK K hH0
   try simp only [pu]
   refine tk 3 47 hH1 ?_
   refine rdy [4, 9, 10] ?_
   refine ad 48 (fun K hK => ?_) ?_
   go_simp; (
    (with_reducible refine (ks2 _).mono ?_)
    rintro e wRS ⟨ua, ub, rfl, t2⟩
    obtain ⟨A3, n3, rfl, _, _⟩ := own_form t2.own
    obtain ⟨A4, n4, rfl, _, _⟩ := own_form t2.tail.own
    have yRS := yR.join t2
    have sfRS := hS _ (yRS.tail.tail.tail.blk)
    have qRSG0 := (yRS.alloc 32 #[.string ⟨#[]⟩, .int .i64 0, .string ⟨#[]⟩, .int .i64 0, .slice none 0 0, .slice none 0 0, .slice none 0 0])
    have sfRSG := hS _ (qRSG0.tail.tail.tail.tail.blk)
    clear qRSG0
    have qRSGJ0 := ((yRS.alloc 32 #[.string ⟨#[]⟩, .int .i64 0, .string ⟨#[]⟩, .int .i64 0, .slice none 0 0, .slice none 0 0, .slice none 0 0]).alloc 23 #[.string ⟨#[]⟩, .int .i64 0, .int .i64 0])
    have sfRSGJ := hS _ (qRSGJ0.tail.tail.tail.tail.tail.blk)
    clear qRSGJ0
    have qRSGJ1 := ((yRS.alloc 32 #[.string ⟨#[108, 111, 103]⟩, .int .i64 3, .string ⟨R3.toArray⟩, .int .i64 1, .slice A3 cB.length n3, .slice A4 tB.length n4, .slice none 0 0]).alloc 23 #[.string ⟨#[]⟩, .int .i64 0, .int .i64 0])
    have sfRSGJ1 := hS _ (qRSGJ1.tail.tail.tail.tail.tail.blk)
    clear qRSGJ1
    have qRSGJ2 := ((yRS.alloc 32 #[.string ⟨#[108, 111, 103]⟩, .int .i64 3, .string ⟨R3.toArray⟩, .int .i64 1, .slice A3 cB.length n3, .slice A4 tB.length n4, .slice none 0 0]).alloc 23 #[.string ⟨SR.toArray⟩, .int .i64 1, .int .i64 2])
    have sfRSGJ2 := hS _ (qRSGJ2.tail.tail.tail.tail.tail.blk)
    clear qRSGJ2
    have qRSJ0 := (yRS.alloc 23 #[.string ⟨#[]⟩, .int .i64 0, .int .i64 0])
    have sfRSJ := hS _ (qRSJ0.tail.tail.tail.tail.blk)
    clear qRSJ0
    have qRSJG0 := ((yRS.alloc 23 #[.string ⟨#[]⟩, .int .i64 0, .int .i64 0]).alloc 32 #[.string ⟨#[]⟩, .int .i64 0, .string ⟨#[]⟩, .int .i64 0, .slice none 0 0, .slice none 0 0, .slice none 0 0])
    have sfRSJG := hS _ (qRSJG0.tail.tail.tail.tail.tail.blk)
    clear qRSJG0
    have qRSJG1 := ((yRS.alloc 23 #[.string ⟨#[]⟩, .int .i64 0, .int .i64 0]).alloc 32 #[.string ⟨#[108, 111, 103]⟩, .int .i64 3, .string ⟨R3.toArray⟩, .int .i64 1, .slice A3 cB.length n3, .slice A4 tB.length n4, .slice none 0 0])
    have sfRSJG1 := hS _ (qRSJG1.tail.tail.tail.tail.tail.blk)
    clear qRSJG1
    have qRSJG2 := ((yRS.alloc 23 #[.string ⟨SR.toArray⟩, .int .i64 1, .int .i64 2]).alloc 32 #[.string ⟨#[108, 111, 103]⟩, .int .i64 3, .string ⟨R3.toArray⟩, .int .i64 1, .slice A3 cB.length n3, .slice A4 tB.length n4, .slice none 0 0])
    have sfRSJG2 := hS _ (qRSJG2.tail.tail.tail.tail.tail.blk)
    clear qRSJG2); go_wp2_with fail
   refine hK.out _ _ (by with_reducible exact sfRS) fun hH2 => ?_
   clear hK K hH1
   try simp only [pu]
   refine tk 5 43 hH2 ?_
   refine tk 6 49 hH2 ?_
   refine tk 7 50 hH2 ?_
   refine tk 8 51 hH2 ?_
   refine rdy [9, 10] ?_
   refine ad 7 (fun K hK => ?_) ?_
   go_simp
   refine hK.out _ _ (by with_reducible exact sfRSG) fun hH3 => ?_
   clear hK K hH2
   try simp only [pu]
   refine rdy [10] ?_
   refine an 8 fun K hK => ?_
   go_simp
   refine hK.out _ _ (by with_reducible exact sfRSGJ) fun hH4 => ?_
   clear hK K hH3
   try simp only [pu]
   refine rdy [11] ?_
   refine az fun K hK => ?_
   go_simp
   refine hK.out _ _ (by with_reducible exact sfRSGJ1) fun hH5 => ?_
   clear hK K hH4
   try simp only [pu]
   refine rdy [12] ?_
   refine az fun K hK => ?_
   go_simp
   refine hK.out _ _ (by with_reducible exact sfRSGJ2) fun hH6 => ?_
   clear hK K hH5
   try simp only [pu]
   refine tk 13 9 hH6 ?_
   refine dn ?_ _
   rotate_left 1
   refine an 8 fun K hK => ?_
   go_simp
   refine hK.out _ _ (by with_reducible exact sfRSJ) fun hH7 => ?_
   clear hK K hH2
   try simp only [pu]
   refine rdy [9] ?_
   refine an 7 fun K hK => ?_
   go_simp
   refine hK.out _ _ (by with_reducible exact sfRSJG) fun hH8 => ?_
   clear hK K hH7
   try simp only [pu]
   refine rdy [11] ?_
   refine az fun K hK => ?_
   go_simp
   refine hK.out _ _ (by with_reducible exact sfRSJG1) fun hH9 => ?_
   clear hK K hH8
   try simp only [pu]
   refine rdy [12] ?_
   refine az fun K hK => ?_
   go_simp
   refine hK.out _ _ (by with_reducible exact sfRSJG2) fun hH10 => ?_
   clear hK K hH9
   try simp only [pu]
   refine tk 13 9 hH10 ?_
   refine dn ?_ _
   rotate_left 1
   refine ad 7 (fun K hK => ?_) ?_
   go_simp
   refine hK.out _ _ (by with_reducible exact sfRG) fun hH11 => ?_
   clear hK K hH1
   try simp only [pu]
   refine rdy [4, 10] ?_
   refine ad 48 (fun K hK => ?_) ?_
   go_simp; (
    (with_reducible refine (ks2 _).mono ?_)
    rintro e wRGS ⟨ua, ub, rfl, t2⟩
    obtain ⟨A3, n3, rfl, _, _⟩ := own_form t2.own
    obtain ⟨A4, n4, rfl, _, _⟩ := own_form t2.tail.own
    have yRGS := (yR.alloc 32 #[.string ⟨#[]⟩, .int .i64 0, .string ⟨#[]⟩, .int .i64 0, .slice none 0 0, .slice none 0 0, .slice none 0 0]).join t2
    have ltG := (yRGS.tail.tail).blk.lt
    have neG : ¬ (wRGS.heap.size = wR.heap.size) := Nat.ne_of_gt ltG
    have sfRGS := hS _ (yRGS.tail.tail.tail.tail.blk)
    have qRGSJ0 := (yRGS.alloc 23 #[.string ⟨#[]⟩, .int .i64 0, .int .i64 0])
    have sfRGSJ := hS _ (qRGSJ0.tail.tail.tail.tail.tail.blk)
    clear qRGSJ0
    have qRGSJ1 := (((((((((yRGS.pk [2, 0, 1, 3, 4, 5, 6, 7]).set_ 0 (.string ⟨#[108, 111, 103]⟩)).set_ 1 (.int .i64 3)).set_ 2 (.string ⟨R3.toArray⟩)).set_ 3 (.int .i64 1)).set_ 4 (.slice A3 cB.length n3)).set_ 5 (.slice A4 tB.length n4)).set_ 6 (.slice none 0 0)).alloc 23 #[.string ⟨#[]⟩, .int .i64 0, .int .i64 0])
    have sfRGSJ1 := hS _ (qRGSJ1.tail.tail.tail.tail.tail.blk)
    clear qRGSJ1
    have qRGSJ2 := (((((((((yRGS.pk [2, 0, 1, 3, 4, 5, 6, 7]).set_ 0 (.string ⟨#[108, 111, 103]⟩)).set_ 1 (.int .i64 3)).set_ 2 (.string ⟨R3.toArray⟩)).set_ 3 (.int .i64 1)).set_ 4 (.slice A3 cB.length n3)).set_ 5 (.slice A4 tB.length n4)).set_ 6 (.slice none 0 0)).alloc 23 #[.string ⟨SR.toArray⟩, .int .i64 1, .int .i64 2])
    have sfRGSJ2 := hS _ (qRGSJ2.tail.tail.tail.tail.tail.blk)
    clear qRGSJ2
    obtain ⟨_, _, _, _, _, _, _, _, _, _, _, _, _, _⟩ := bk7 yRGS.tail.tail.blk); go_wp2_with fail
   refine hK.out _ _ (by with_reducible exact sfRGS) fun hH12 => ?_
   clear hK K hH11
   try simp only [pu]
   refine tk 5 43 hH12 ?_
   refine tk 6 49 hH12 ?_
   refine tk 7 50 hH12 ?_
   refine tk 8 51 hH12 ?_
   refine rdy [10] ?_
   refine an 8 fun K hK => ?_
   go_simp
   refine hK.out _ _ (by with_reducible exact sfRGSJ) fun hH13 => ?_
   clear hK K hH12
   try simp only [pu]
   refine rdy [11] ?_
   refine az fun K hK => ?_
   go_simp
   refine hK.out _ _ (by with_reducible exact sfRGSJ1) fun hH14 => ?_
   clear hK K hH13
   try simp only [pu]
   refine rdy [12] ?_
   refine az fun K hK => ?_
   go_simp
   refine hK.out _ _ (by with_reducible exact sfRGSJ2) fun hH15 => ?_
   clear hK K hH14
   try simp only [pu]
   refine tk 13 9 hH15 ?_
   refine dn ?_ _
   rotate_left 1
   refine an 8 fun K hK => ?_
   go_simp
   refine hK.out _ _ (by with_reducible exact sfRGJ) fun hH16 => ?_
   clear hK K hH11
   try simp only [pu]
   refine rdy [4] ?_
   refine an 48 fun K hK => ?_
   go_simp; (
    (with_reducible refine (ks2 _).mono ?_)
    rintro e wRGJS ⟨ua, ub, rfl, t2⟩
    obtain ⟨A3, n3, rfl, _, _⟩ := own_form t2.own
    obtain ⟨A4, n4, rfl, _, _⟩ := own_form t2.tail.own
    have yRGJS := ((yR.alloc 32 #[.string ⟨#[]⟩, .int .i64 0, .string ⟨#[]⟩, .int .i64 0, .slice none 0 0, .slice none 0 0, .slice none 0 0]).alloc 23 #[.string ⟨#[]⟩, .int .i64 0, .int .i64 0]).join t2
    try simp only [World.size_alloc] at yRGJS
    have ltG := (yRGJS.tail.tail.tail).blk.lt
    have neG : ¬ (wRGJS.heap.size = wR.heap.size) := Nat.ne_of_gt ltG
    have ltJ := (yRGJS.tail.tail).blk.lt
    have neJ : ¬ (wRGJS.heap.size = wR.heap.size + 1) := Nat.ne_of_gt ltJ
    have ltGJ : wR.heap.size < wR.heap.size + 1 := by first | exact ((yR.alloc 32 #[.string ⟨#[]⟩, .int .i64 0, .string ⟨#[]⟩, .int .i64 0, .slice none 0 0, .slice none 0 0, .slice none 0 0])).blk.lt | (have := ((yR.alloc 32 #[.string ⟨#[]⟩, .int .i64 0, .string ⟨#[]⟩, .int .i64 0, .slice none 0 0, .slice none 0 0, .slice none 0 0])).blk.lt; simp only [World.size_alloc] at this; exact this) | (have := ((yR.alloc 32 #[.string ⟨#[]⟩, .int .i64 0, .string ⟨#[]⟩, .int .i64 0, .slice none 0 0, .slice none 0 0, .slice none 0 0])).blk.lt; simp only [World.size_drew, World.size_alloc] at this; exact this)
    have neGJ : ¬ (wR.heap.size = wR.heap.size + 1) := Nat.ne_of_lt ltGJ
    have neJG : ¬ (wR.heap.size + 1 = wR.heap.size) := Nat.ne_of_gt ltGJ
    have sfRGJS := hS _ (yRGJS.tail.tail.tail.tail.tail.blk)
    have qRGJS1 := ((((((((yRGJS.pk [3, 0, 1, 2, 4, 5, 6, 7, 8]).set_ 0 (.string ⟨#[108, 111, 103]⟩)).set_ 1 (.int .i64 3)).set_ 2 (.string ⟨R3.toArray⟩)).set_ 3 (.int .i64 1)).set_ 4 (.slice A3 cB.length n3)).set_ 5 (.slice A4 tB.length n4)).set_ 6 (.slice none 0 0))
    have sfRGJS1 := hS _ (qRGJS1.tail.tail.tail.tail.tail.blk)
    clear qRGJS1
    have qRGJS2 := ((((((((((((yRGJS.pk [3, 0, 1, 2, 4, 5, 6, 7, 8]).set_ 0 (.string ⟨#[108, 111, 103]⟩)).set_ 1 (.int .i64 3)).set_ 2 (.string ⟨R3.toArray⟩)).set_ 3 (.int .i64 1)).set_ 4 (.slice A3 cB.length n3)).set_ 5 (.slice A4 tB.length n4)).set_ 6 (.slice none 0 0)).pk [3, 0, 1, 2, 4, 5, 6, 7, 8]).set_ 0 (.string ⟨SR.toArray⟩)).set_ 1 (.int .i64 1)).set_ 2 (.int .i64 2))
    have sfRGJS2 := hS _ (qRGJS2.tail.tail.tail.tail.tail.blk)
    clear qRGJS2
    obtain ⟨_, _, _, _, _, _, _, _, _, _, _, _, _, _⟩ := bk7 yRGJS.tail.tail.tail.blk
    obtain ⟨_, _, _, _, _, _⟩ := bk3 yRGJS.tail.tail.blk); go_wp2_with fail
   refine hK.out _ _ (by with_reducible exact sfRGJS) fun hH17 => ?_
   clear hK K hH16
   try simp only [pu]
   refine tk 5 43 hH17 ?_
   refine tk 6 49 hH17 ?_
   refine tk 7 50 hH17 ?_
   refine tk 8 51 hH17 ?_
   refine rdy [11] ?_
   refine az fun K hK => ?_
   go_simp
   refine hK.out _ _ (by with_reducible exact sfRGJS1) fun hH18 => ?_
   clear hK K hH17
   try simp only [pu]
   refine rdy [12] ?_
   refine az fun K hK => ?_
   go_simp
   refine hK.out _ _ (by with_reducible exact sfRGJS2) fun hH19 => ?_
   clear hK K hH18
   try simp only [pu]
   refine tk 13 9 hH19 ?_
   refine dn ?_ _
   rotate_left 1
   refine an 8 fun K hK => ?_
   go_simp
   refine hK.out _ _ (by with_reducible exact sfRJ) fun hH20 => ?_
   clear hK K hH1
   try simp only [pu]
   refine rdy [4, 9] ?_
   refine ad 48 (fun K hK => ?_) ?_
   go_simp; (
    (with_reducible refine (ks2 _).mono ?_)
    rintro e wRJS ⟨ua, ub, rfl, t2⟩
    obtain ⟨A3, n3, rfl, _, _⟩ := own_form t2.own
    obtain ⟨A4, n4, rfl, _, _⟩ := own_form t2.tail.own
    have yRJS := (yR.alloc 23 #[.string ⟨#[]⟩, .int .i64 0, .int .i64 0]).join t2
    have ltJ := (yRJS.tail.tail).blk.lt
    have neJ : ¬ (wRJS.heap.size = wR.heap.size) := Nat.ne_of_gt ltJ
    have sfRJS := hS _ (yRJS.tail.tail.tail.tail.blk)
    have qRJSG0 := (yRJS.alloc 32 #[.string ⟨#[]⟩, .int .i64 0, .string ⟨#[]⟩, .int .i64 0, .slice none 0 0, .slice none 0 0, .slice none 0 0])
    have sfRJSG := hS _ (qRJSG0.tail.tail.tail.tail.tail.blk)
    clear qRJSG0
    have qRJSG1 := (yRJS.alloc 32 #[.string ⟨#[108, 111, 103]⟩, .int .i64 3, .string ⟨R3.toArray⟩, .int .i64 1, .slice A3 cB.length n3, .slice A4 tB.length n4, .slice none 0 0])
    have sfRJSG1 := hS _ (qRJSG1.tail.tail.tail.tail.tail.blk)
    clear qRJSG1
    have qRJSG2 := (((((yRJS.pk [2, 0, 1, 3, 4, 5, 6, 7]).set_ 0 (.string ⟨SR.toArray⟩)).set_ 1 (.int .i64 1)).set_ 2 (.int .i64 2)).alloc 32 #[.string ⟨#[108, 111, 103]⟩, .int .i64 3, .string ⟨R3.toArray⟩, .int .i64 1, .slice A3 cB.length n3, .slice A4 tB.length n4, .slice none 0 0])
    have sfRJSG2 := hS _ (qRJSG2.tail.tail.tail.tail.tail.blk)
    clear qRJSG2
    obtain ⟨_, _, _, _, _, _⟩ := bk3 yRJS.tail.tail.blk); go_wp2_with fail
   refine hK.out _ _ (by with_reducible exact sfRJS) fun hH21 => ?_
   clear hK K hH20
   try simp only [pu]
   refine tk 5 43 hH21 ?_
   refine tk 6 49 hH21 ?_
   refine tk 7 50 hH21 ?_
   refine tk 8 51 hH21 ?_
   refine rdy [9] ?_
   refine an 7 fun K hK => ?_
   go_simp
   refine hK.out _ _ (by with_reducible exact sfRJSG) fun hH22 => ?_
   clear hK K hH21
   try simp only [pu]
   refine rdy [11] ?_
   refine az fun K hK => ?_
   go_simp
   refine hK.out _ _ (by with_reducible exact sfRJSG1) fun hH23 => ?_
   clear hK K hH22
   try simp only [pu]
   refine rdy [12] ?_
   refine az fun K hK => ?_
   go_simp
   refine hK.out _ _ (by with_reducible exact sfRJSG2) fun hH24 => ?_
   clear hK K hH23
   try simp only [pu]
   refine tk 13 9 hH24 ?_
   refine dn ?_ _
   rotate_left 1
   refine an 7 fun K hK => ?_
   go_simp
   refine hK.out _ _ (by with_reducible exact sfRJG) fun hH25 => ?_
   clear hK K hH20
   try simp only [pu]
   refine rdy [4] ?_
   refine an 48 fun K hK => ?_
   go_simp; (
    (with_reducible refine (ks2 _).mono ?_)
    rintro e wRJGS ⟨ua, ub, rfl, t2⟩
    obtain ⟨A3, n3, rfl, _, _⟩ := own_form t2.own
    obtain ⟨A4, n4, rfl, _, _⟩ := own_form t2.tail.own
    have yRJGS := ((yR.alloc 23 #[.string ⟨#[]⟩, .int .i64 0, .int .i64 0]).alloc 32 #[.string ⟨#[]⟩, .int .i64 0, .string ⟨#[]⟩, .int .i64 0, .slice none 0 0, .slice none 0 0, .slice none 0 0]).join t2
    try simp only [World.size_alloc] at yRJGS
    have ltG := (yRJGS.tail.tail).blk.lt
    have neG : ¬ (wRJGS.heap.size = wR.heap.size + 1) := Nat.ne_of_gt ltG
    have ltJ := (yRJGS.tail.tail.tail).blk.lt
    have neJ : ¬ (wRJGS.heap.size = wR.heap.size) := Nat.ne_of_gt ltJ
    have ltJG : wR.heap.size < wR.heap.size + 1 := by first | exact ((yR.alloc 23 #[.string ⟨#[]⟩, .int .i64 0, .int .i64 0])).blk.lt | (have := ((yR.alloc 23 #[.string ⟨#[]⟩, .int .i64 0, .int .i64 0])).blk.lt; simp only [World.size_alloc] at this; exact this) | (have := ((yR.alloc 23 #[.string ⟨#[]⟩, .int .i64 0, .int .i64 0])).blk.lt; simp only [World.size_drew, World.size_alloc] at this; exact this)
    have neJG : ¬ (wR.heap.size = wR.heap.size + 1) := Nat.ne_of_lt ltJG
    have neGJ : ¬ (wR.heap.size + 1 = wR.heap.size) := Nat.ne_of_gt ltJG
    have sfRJGS := hS _ (yRJGS.tail.tail.tail.tail.tail.blk)
    have qRJGS1 := ((((((((yRJGS.pk [2, 0, 1, 3, 4, 5, 6, 7, 8]).set_ 0 (.string ⟨#[108, 111, 103]⟩)).set_ 1 (.int .i64 3)).set_ 2 (.string ⟨R3.toArray⟩)).set_ 3 (.int .i64 1)).set_ 4 (.slice A3 cB.length n3)).set_ 5 (.slice A4 tB.length n4)).set_ 6 (.slice none 0 0))
    have sfRJGS1 := hS _ (qRJGS1.tail.tail.tail.tail.tail.blk)
    clear qRJGS1
    have qRJGS2 := ((((((((((((yRJGS.pk [2, 0, 1, 3, 4, 5, 6, 7, 8]).set_ 0 (.string ⟨#[108, 111, 103]⟩)).set_ 1 (.int .i64 3)).set_ 2 (.string ⟨R3.toArray⟩)).set_ 3 (.int .i64 1)).set_ 4 (.slice A3 cB.length n3)).set_ 5 (.slice A4 tB.length n4)).set_ 6 (.slice none 0 0)).pk [3, 0, 1, 2, 4, 5, 6, 7, 8]).set_ 0 (.string ⟨SR.toArray⟩)).set_ 1 (.int .i64 1)).set_ 2 (.int .i64 2))
    have sfRJGS2 := hS _ (qRJGS2.tail.tail.tail.tail.tail.blk)
    clear qRJGS2
    obtain ⟨_, _, _, _, _, _, _, _, _, _, _, _, _, _⟩ := bk7 yRJGS.tail.tail.blk
    obtain ⟨_, _, _, _, _, _⟩ := bk3 yRJGS.tail.tail.tail.blk); go_wp2_with fail
   refine hK.out _ _ (by with_reducible exact sfRJGS) fun hH26 => ?_
   clear hK K hH25
   try simp only [pu]
   refine tk 5 43 hH26 ?_
   refine tk 6 49 hH26 ?_
   refine tk 7 50 hH26 ?_
   refine tk 8 51 hH26 ?_
   refine rdy [11] ?_
   refine az fun K hK => ?_
   go_simp
   refine hK.out _ _ (by with_reducible exact sfRJGS1) fun hH27 => ?_
   clear hK K hH26
   try simp only [pu]
   refine rdy [12] ?_
   refine az fun K hK => ?_
   go_simp
   refine hK.out _ _ (by with_reducible exact sfRJGS2) fun hH28 => ?_
   clear hK K hH27
   try simp only [pu]
   refine tk 13 9 hH28 ?_
   refine dn ?_ _
   rotate_left 1
   refine ad 7 (fun K hK => ?_) ?_
   go_simp
   refine hK.out _ _ (by with_reducible exact sfG) fun hH29 => ?_
   clear hK K hH0
   try simp only [pu]
   refine rdy [2, 10] ?_
   refine ad 46 (fun K hK => ?_) ?_
   go_simp; (
    (with_reducible refine (kr3 _ _ (rd_strs3 ((y6.alloc 32 #[.string ⟨#[]⟩, .int .i64 0, .string ⟨#[]⟩, .int .i64 0, .slice none 0 0, .slice none 0 0, .slice none 0 0]).drew.tail.tail.tail.tail.tail.blk))).mono ?_)
    rintro e wGR ⟨rfl, bR⟩
    have yGR := (y6.alloc 32 #[.string ⟨#[]⟩, .int .i64 0, .string ⟨#[]⟩, .int .i64 0, .slice none 0 0, .slice none 0 0, .slice none 0 0]).drew.under bR
    have sfGR := hS _ (yGR.tail.tail.blk)
    have qGRJ0 := (yGR.alloc 23 #[.string ⟨#[]⟩, .int .i64 0, .int .i64 0])
    have sfGRJ := hS _ (qGRJ0.tail.tail.tail.blk)
    clear qGRJ0); go_wp2_with fail
   refine hK.out _ _ (by with_reducible exact sfGR) fun hH30 => ?_
   clear hK K hH29
   try simp only [pu]
   refine tk 3 47 hH30 ?_
   refine rdy [4, 10] ?_
   refine ad 48 (fun K hK => ?_) ?_
   go_simp; (
    (with_reducible refine (ks2 _).mono ?_)
    rintro e wGRS ⟨ua, ub, rfl, t2⟩
    obtain ⟨A3, n3, rfl, _, _⟩ := own_form t2.own
    obtain ⟨A4, n4, rfl, _, _⟩ := own_form t2.tail.own
    have yGRS := yGR.join t2
    have ltG := (yGRS.tail.tail).blk.lt
    have neG : ¬ (wGRS.heap.size = w6.heap.size) := Nat.ne_of_gt ltG
    have sfGRS := hS _ (yGRS.tail.tail.tail.tail.blk)
    have qGRSJ0 := (yGRS.alloc 23 #[.string ⟨#[]⟩, .int .i64 0, .int .i64 0])
    have sfGRSJ := hS _ (qGRSJ0.tail.tail.tail.tail.tail.blk)
    clear qGRSJ0
    have qGRSJ1 := (((((((((yGRS.pk [2, 0, 1, 3, 4, 5, 6, 7]).set_ 0 (.string ⟨#[108, 111, 103]⟩)).set_ 1 (.int .i64 3)).set_ 2 (.string ⟨R3.toArray⟩)).set_ 3 (.int .i64 1)).set_ 4 (.slice A3 cB.length n3)).set_ 5 (.slice A4 tB.length n4)).set_ 6 (.slice none 0 0)).alloc 23 #[.string ⟨#[]⟩, .int .i64 0, .int .i64 0])
    have sfGRSJ1 := hS _ (qGRSJ1.tail.tail.tail.tail.tail.blk)
    clear qGRSJ1
    have qGRSJ2 := (((((((((yGRS.pk [2, 0, 1, 3, 4, 5, 6, 7]).set_ 0 (.string ⟨#[108, 111, 103]⟩)).set_ 1 (.int .i64 3)).set_ 2 (.string ⟨R3.toArray⟩)).set_ 3 (.int .i64 1)).set_ 4 (.slice A3 cB.length n3)).set_ 5 (.slice A4 tB.length n4)).set_ 6 (.slice none 0 0)).alloc 23 #[.string ⟨SR.toArray⟩, .int .i64 1, .int .i64 2])
    have sfGRSJ2 := hS _ (qGRSJ2.tail.tail.tail.tail.tail.blk)
    clear qGRSJ2
    obtain ⟨_, _, _, _, _, _, _, _, _, _, _, _, _, _⟩ := bk7 yGRS.tail.tail.blk); go_wp2_with fail
   refine hK.out _ _ (by with_reducible exact sfGRS) fun hH31 => ?_
   clear hK K hH30
   try simp only [pu]
   refine tk 5 43 hH31 ?_
   refine tk 6 49 hH31 ?_
   refine tk 7 50 hH31 ?_
   refine tk 8 51 hH31 ?_
   refine rdy [10] ?_
   refine an 8 fun K hK => ?_
   go_simp
   refine hK.out _ _ (by with_reducible exact sfGRSJ) fun hH32 => ?_
   clear hK K hH31
   try simp only [pu]
   refine rdy [11] ?_
   refine az fun K hK => ?_
   go_simp
   refine hK.out _ _ (by with_reducible exact sfGRSJ1) fun hH33 => ?_
   clear hK K hH32
   try simp only [pu]
   refine rdy [12] ?_
   refine az fun K hK => ?_
   go_simp
   refine hK.out _ _ (by with_reducible exact sfGRSJ2) fun hH34 => ?_
   clear hK K hH33
   try simp only [pu]
   refine tk 13 9 hH34 ?_
   refine dn ?_ _
   rotate_left 1
   refine an 8 fun K hK => ?_
   go_simp
   refine hK.out _ _ (by with_reducible exact sfGRJ) fun hH35 => ?_
   clear hK K hH30
   try simp only [pu]
   refine rdy [4] ?_
   refine an 48 fun K hK => ?_
   go_simp; (
    (with_reducible refine (ks2 _).mono ?_)
    rintro e wGRJS ⟨ua, ub, rfl, t2⟩
    obtain ⟨A3, n3, rfl, _, _⟩ := own_form t2.own
    obtain ⟨A4, n4, rfl, _, _⟩ := own_form t2.tail.own
    have yGRJS := (yGR.alloc 23 #[.string ⟨#[]⟩, .int .i64 0, .int .i64 0]).join t2
    try simp only [World.size_alloc] at yGRJS
    have ltG := (yGRJS.tail.tail.tail).blk.lt
    have neG : ¬ (wGRJS.heap.size = w6.heap.size) := Nat.ne_of_gt ltG
    have ltJ := (yGRJS.tail.tail).blk.lt
    have neJ : ¬ (wGRJS.heap.size = wGR.heap.size) := Nat.ne_of_gt ltJ
    have ltGJ : w6.heap.size < wGR.heap.size := by first | exact (yGR).blk.lt | (have := (yGR).blk.lt; simp only [World.size_alloc] at this; exact this) | (have := (yGR).blk.lt; simp only [World.size_drew, World.size_alloc] at this; exact this)
    have neGJ : ¬ (w6.heap.size = wGR.heap.size) := Nat.ne_of_lt ltGJ
    have neJG : ¬ (wGR.heap.size = w6.heap.size) := Nat.ne_of_gt ltGJ
    have sfGRJS := hS _ (yGRJS.tail.tail.tail.tail.tail.blk)
    have qGRJS1 := ((((((((yGRJS.pk [3, 0, 1, 2, 4, 5, 6, 7, 8]).set_ 0 (.string ⟨#[108, 111, 103]⟩)).set_ 1 (.int .i64 3)).set_ 2 (.string ⟨R3.toArray⟩)).set_ 3 (.int .i64 1)).set_ 4 (.slice A3 cB.length n3)).set_ 5 (.slice A4 tB.length n4)).set_ 6 (.slice none 0 0))
    have sfGRJS1 := hS _ (qGRJS1.tail.tail.tail.tail.tail.blk)
    clear qGRJS1
    have qGRJS2 := ((((((((((((yGRJS.pk [3, 0, 1, 2, 4, 5, 6, 7, 8]).set_ 0 (.string ⟨#[108, 111, 103]⟩)).set_ 1 (.int .i64 3)).set_ 2 (.string ⟨R3.toArray⟩)).set_ 3 (.int .i64 1)).set_ 4 (.slice A3 cB.length n3)).set_ 5 (.slice A4 tB.length n4)).set_ 6 (.slice none 0 0)).pk [3, 0, 1, 2, 4, 5, 6, 7, 8]).set_ 0 (.string ⟨SR.toArray⟩)).set_ 1 (.int .i64 1)).set_ 2 (.int .i64 2))
    have sfGRJS2 := hS _ (qGRJS2.tail.tail.tail.tail.tail.blk)
    clear qGRJS2
    obtain ⟨_, _, _, _, _, _, _, _, _, _, _, _, _, _⟩ := bk7 yGRJS.tail.tail.tail.blk
    obtain ⟨_, _, _, _, _, _⟩ := bk3 yGRJS.tail.tail.blk); go_wp2_with fail
   refine hK.out _ _ (by with_reducible exact sfGRJS) fun hH36 => ?_
   clear hK K hH35
   try simp only [pu]
   refine tk 5 43 hH36 ?_
   refine tk 6 49 hH36 ?_
   refine tk 7 50 hH36 ?_
   refine tk 8 51 hH36 ?_
   refine rdy [11] ?_
   refine az fun K hK => ?_
   go_simp
   refine hK.out _ _ (by with_reducible exact sfGRJS1) fun hH37 => ?_
   clear hK K hH36
   try simp only [pu]
   refine rdy [12] ?_
   refine az fun K hK => ?_
   go_simp
   refine hK.out _ _ (by with_reducible exact sfGRJS2) fun hH38 => ?_
   clear hK K hH37
   try simp only [pu]
   refine tk 13 9 hH38 ?_
   refine dn ?_ _
   rotate_left 1
   refine an 8 fun K hK => ?_
   go_simp
   refine hK.out _ _ (by with_reducible exact sfGJ) fun hH39 => ?_
   clear hK K hH29
   try simp only [pu]
   refine rdy [2] ?_
   refine an 46 fun K hK => ?_
   go_simp; (
    (with_reducible refine (kr3 _ _ (rd_strs3 (((y6.alloc 32 #[.string ⟨#[]⟩, .int .i64 0, .string ⟨#[]⟩, .int .i64 0, .slice none 0 0, .slice none 0 0, .slice none 0 0]).alloc 23 #[.string ⟨#[]⟩, .int .i64 0, .int .i64 0]).drew.tail.tail.tail.tail.tail.tail.blk))).mono ?_)
    rintro e wGJR ⟨rfl, bR⟩
    have yGJR := ((y6.alloc 32 #[.string ⟨#[]⟩, .int .i64 0, .string ⟨#[]⟩, .int .i64 0, .slice none 0 0, .slice none 0 0, .slice none 0 0]).alloc 23 #[.string ⟨#[]⟩, .int .i64 0, .int .i64 0]).drew.under bR
    try simp only [World.size_alloc] at yGJR
    have sfGJR := hS _ (yGJR.tail.tail.tail.blk)); go_wp2_with fail
   refine hK.out _ _ (by with_reducible exact sfGJR) fun hH40 => ?_
   clear hK K hH39
   try simp only [pu]
   refine tk 3 47 hH40 ?_
   refine rdy [4] ?_
   refine an 48 fun K hK => ?_
   go_simp; (
    (with_reducible refine (ks2 _).mono ?_)
    rintro e wGJRS ⟨ua, ub, rfl, t2⟩
    obtain ⟨A3, n3, rfl, _, _⟩ := own_form t2.own
    obtain ⟨A4, n4, rfl, _, _⟩ := own_form t2.tail.own
    have yGJRS := yGJR.join t2
    try simp only [World.size_alloc] at yGJRS
    have ltG := (yGJRS.tail.tail.tail).blk.lt
    have neG : ¬ (wGJRS.heap.size = w6.heap.size) := Nat.ne_of_gt ltG
    have ltJ := (yGJRS.tail.tail).blk.lt
    have neJ : ¬ (wGJRS.heap.size = w6.heap.size + 1) := Nat.ne_of_gt ltJ
    have ltGJ : w6.heap.size < w6.heap.size + 1 := by first | exact ((y6.alloc 32 #[.string ⟨#[]⟩, .int .i64 0, .string ⟨#[]⟩, .int .i64 0, .slice none 0 0, .slice none 0 0, .slice none 0 0]).drew).blk.lt | (have := ((y6.alloc 32 #[.string ⟨#[]⟩, .int .i64 0, .string ⟨#[]⟩, .int .i64 0, .slice none 0 0, .slice none 0 0, .slice none 0 0]).drew).blk.lt; simp only [World.size_alloc] at this; exact this) | (have := ((y6.alloc 32 #[.string ⟨#[]⟩, .int .i64 0, .string ⟨#[]⟩, .int .i64 0, .slice none 0 0, .slice none 0 0, .slice none 0 0]).drew).blk.lt; simp only [World.size_drew, World.size_alloc] at this; exact this)
    have neGJ : ¬ (w6.heap.size = w6.heap.size + 1) := Nat.ne_of_lt ltGJ
    have neJG : ¬ (w6.heap.size + 1 = w6.heap.size) := Nat.ne_of_gt ltGJ
    have sfGJRS := hS _ (yGJRS.tail.tail.tail.tail.tail.blk)
    have qGJRS1 := ((((((((yGJRS.pk [3, 0, 1, 2, 4, 5, 6, 7, 8]).set_ 0 (.string ⟨#[108, 111, 103]⟩)).set_ 1 (.int .i64 3)).set_ 2 (.string ⟨R3.toArray⟩)).set_ 3 (.int .i64 1)).set_ 4 (.slice A3 cB.length n3)).set_ 5 (.slice A4 tB.length n4)).set_ 6 (.slice none 0 0))
    have sfGJRS1 := hS _ (qGJRS1.tail.tail.tail.tail.tail.blk)
    clear qGJRS1
    have qGJRS2 := ((((((((((((yGJRS.pk [3, 0, 1, 2, 4, 5, 6, 7, 8]).set_ 0 (.string ⟨#[108, 111, 103]⟩)).set_ 1 (.int .i64 3)).set_ 2 (.string ⟨R3.toArray⟩)).set_ 3 (.int .i64 1)).set_ 4 (.slice A3 cB.length n3)).set_ 5 (.slice A4 tB.length n4)).set_ 6 (.slice none 0 0)).pk [3, 0, 1, 2, 4, 5, 6, 7, 8]).set_ 0 (.string ⟨SR.toArray⟩)).set_ 1 (.int .i64 1)).set_ 2 (.int .i64 2))
    have sfGJRS2 := hS _ (qGJRS2.tail.tail.tail.tail.tail.blk)
    clear qGJRS2
    obtain ⟨_, _, _, _, _, _, _, _, _, _, _, _, _, _⟩ := bk7 yGJRS.tail.tail.tail.blk
    obtain ⟨_, _, _, _, _, _⟩ := bk3 yGJRS.tail.tail.blk); go_wp2_with fail
   refine hK.out _ _ (by with_reducible exact sfGJRS) fun hH41 => ?_
   clear hK K hH40
   try simp only [pu]
   refine tk 5 43 hH41 ?_
   refine tk 6 49 hH41 ?_
   refine tk 7 50 hH41 ?_
   refine tk 8 51 hH41 ?_
   refine rdy [11] ?_
   refine az fun K hK => ?_
   go_simp
   refine hK.out _ _ (by with_reducible exact sfGJRS1) fun hH42 => ?_
   clear hK K hH41
   try simp only [pu]
   refine rdy [12] ?_
   refine az fun K hK => ?_
   go_simp
   refine hK.out _ _ (by with_reducible exact sfGJRS2) fun hH43 => ?_
   clear hK K hH42
   try simp only [pu]
   refine tk 13 9 hH43 ?_
   refine dn ?_ _
   rotate_left 1
   refine an 8 fun K hK => ?_
   go_simp
   refine hK.out _ _ (by with_reducible exact sfJ) fun hH44 => ?_
   clear hK K hH0
   try simp only [pu]
   refine rdy [2, 9] ?_
   refine ad 46 (fun K hK => ?_) ?_
   go_simp; (
    (with_reducible refine (kr3 _ _ (rd_strs3 ((y6.alloc 23 #[.string ⟨#[]⟩, .int .i64 0, .int .i64 0]).drew.tail.tail.tail.tail.tail.blk))).mono ?_)
    rintro e wJR ⟨rfl, bR⟩
    have yJR := (y6.alloc 23 #[.string ⟨#[]⟩, .int .i64 0, .int .i64 0]).drew.under bR
    have sfJR := hS _ (yJR.tail.tail.blk)
    have qJRG0 := (yJR.alloc 32 #[.string ⟨#[]⟩, .int .i64 0, .string ⟨#[]⟩, .int .i64 0, .slice none 0 0, .slice none 0 0, .slice none 0 0])
    have sfJRG := hS _ (qJRG0.tail.tail.tail.blk)
    clear qJRG0); go_wp2_with fail
   refine hK.out _ _ (by with_reducible exact sfJR) fun hH45 => ?_
   clear hK K hH44
   try simp only [pu]
   refine tk 3 47 hH45 ?_
   refine rdy [4, 9] ?_
   refine ad 48 (fun K hK => ?_) ?_
   go_simp; (
    (with_reducible refine (ks2 _).mono ?_)
    rintro e wJRS ⟨ua, ub, rfl, t2⟩
    obtain ⟨A3, n3, rfl, _, _⟩ := own_form t2.own
    obtain ⟨A4, n4, rfl, _, _⟩ := own_form t2.tail.own
    have yJRS := yJR.join t2
    have ltJ := (yJRS.tail.tail).blk.lt
    have neJ : ¬ (wJRS.heap.size = w6.heap.size) := Nat.ne_of_gt ltJ
    have sfJRS := hS _ (yJRS.tail.tail.tail.tail.blk)
    have qJRSG0 := (yJRS.alloc 32 #[.string ⟨#[]⟩, .int .i64 0, .string ⟨#[]⟩, .int .i64 0, .slice none 0 0, .slice none 0 0, .slice none 0 0])
    have sfJRSG := hS _ (qJRSG0.tail.tail.tail.tail.tail.blk)
    clear qJRSG0
    have qJRSG1 := (yJRS.alloc 32 #[.string ⟨#[108, 111, 103]⟩, .int .i64 3, .string ⟨R3.toArray⟩, .int .i64 1, .slice A3 cB.length n3, .slice A4 tB.length n4, .slice none 0 0])
    have sfJRSG1 := hS _ (qJRSG1.tail.tail.tail.tail.tail.blk)
    clear qJRSG1
    have qJRSG2 := (((((yJRS.pk [2, 0, 1, 3, 4, 5, 6, 7]).set_ 0 (.string ⟨SR.toArray⟩)).set_ 1 (.int .i64 1)).set_ 2 (.int .i64 2)).alloc 32 #[.string ⟨#[108, 111, 103]⟩, .int .i64 3, .string ⟨R3.toArray⟩, .int .i64 1, .slice A3 cB.length n3, .slice A4 tB.length n4, .slice none 0 0])
    have sfJRSG2 := hS _ (qJRSG2.tail.tail.tail.tail.tail.blk)
    clear qJRSG2
    obtain ⟨_, _, _, _, _, _⟩ := bk3 yJRS.tail.tail.blk); go_wp2_with fail
   refine hK.out _ _ (by with_reducible exact sfJRS) fun hH46 => ?_
   clear hK K hH45
   try simp only [pu]
   refine tk 5 43 hH46 ?_
   refine tk 6 49 hH46 ?_
   refine tk 7 50 hH46 ?_
   refine tk 8 51 hH46 ?_
   refine rdy [9] ?_
   refine an 7 fun K hK => ?_
   go_simp
   refine hK.out _ _ (by with_reducible exact sfJRSG) fun hH47 => ?_
   clear hK K hH46
   try simp only [pu]
   refine rdy [11] ?_
   refine az fun K hK => ?_
   go_simp
   refine hK.out _ _ (by with_reducible exact sfJRSG1) fun hH48 => ?_
   clear hK K hH47
   try simp only [pu]
   refine rdy [12] ?_
   refine az fun K hK => ?_
   go_simp
   refine hK.out _ _ (by with_reducible exact sfJRSG2) fun hH49 => ?_
   clear hK K hH48
   try simp only [pu]
   refine tk 13 9 hH49 ?_
   refine dn ?_ _
   rotate_left 1
   refine an 7 fun K hK => ?_
   go_simp
   refine hK.out _ _ (by with_reducible exact sfJRG) fun hH50 => ?_
   clear hK K hH45
   try simp only [pu]
   refine rdy [4] ?_
   refine an 48 fun K hK => ?_
   go_simp; (
    (with_reducible refine (ks2 _).mono ?_)
    rintro e wJRGS ⟨ua, ub, rfl, t2⟩
    obtain ⟨A3, n3, rfl, _, _⟩ := own_form t2.own
    obtain ⟨A4, n4, rfl, _, _⟩ := own_form t2.tail.own
    have yJRGS := (yJR.alloc 32 #[.string ⟨#[]⟩, .int .i64 0, .string ⟨#[]⟩, .int .i64 0, .slice none 0 0, .slice none 0 0, .slice none 0 0]).join t2
    try simp only [World.size_alloc] at yJRGS
    have ltG := (yJRGS.tail.tail).blk.lt
    have neG : ¬ (wJRGS.heap.size = wJR.heap.size) := Nat.ne_of_gt ltG
    have ltJ := (yJRGS.tail.tail.tail).blk.lt
    have neJ : ¬ (wJRGS.heap.size = w6.heap.size) := Nat.ne_of_gt ltJ
    have ltJG : w6.heap.size < wJR.heap.size := by first | exact (yJR).blk.lt | (have := (yJR).blk.lt; simp only [World.size_alloc] at this; exact this) | (have := (yJR).blk.lt; simp only [World.size_drew, World.size_alloc] at this; exact this)
    have neJG : ¬ (w6.heap.size = wJR.heap.size) := Nat.ne_of_lt ltJG
    have neGJ : ¬ (wJR.heap.size = w6.heap.size) := Nat.ne_of_gt ltJG
    have sfJRGS := hS _ (yJRGS.tail.tail.tail.tail.tail.blk)
    have qJRGS1 := ((((((((yJRGS.pk [2, 0, 1, 3, 4, 5, 6, 7, 8]).set_ 0 (.string ⟨#[108, 111, 103]⟩)).set_ 1 (.int .i64 3)).set_ 2 (.string ⟨R3.toArray⟩)).set_ 3 (.int .i64 1)).set_ 4 (.slice A3 cB.length n3)).set_ 5 (.slice A4 tB.length n4)).set_ 6 (.slice none 0 0))
    have sfJRGS1 := hS _ (qJRGS1.tail.tail.tail.tail.tail.blk)
    clear qJRGS1
    have qJRGS2 := ((((((((((((yJRGS.pk [2, 0, 1, 3, 4, 5, 6, 7, 8]).set_ 0 (.string ⟨#[108, 111, 103]⟩)).set_ 1 (.int .i64 3)).set_ 2 (.string ⟨R3.toArray⟩)).set_ 3 (.int .i64 1)).set_ 4 (.slice A3 cB.length n3)).set_ 5 (.slice A4 tB.length n4)).set_ 6 (.slice none 0 0)).pk [3, 0, 1, 2, 4, 5, 6, 7, 8]).set_ 0 (.string ⟨SR.toArray⟩)).set_ 1 (.int .i64 1)).set_ 2 (.int .i64 2))
    have sfJRGS2 := hS _ (qJRGS2.tail.tail.tail.tail.tail.blk)
    clear qJRGS2
    obtain ⟨_, _, _, _, _, _, _, _, _, _, _, _, _, _⟩ := bk7 yJRGS.tail.tail.blk
    obtain ⟨_, _, _, _, _, _⟩ := bk3 yJRGS.tail.tail.tail.blk); go_wp2_with fail
   refine hK.out _ _ (by with_reducible exact sfJRGS) fun hH51 => ?_
   clear hK K hH50
   try simp only [pu]
   refine tk 5 43 hH51 ?_
   refine tk 6 49 hH51 ?_
   refine tk 7 50 hH51 ?_
   refine tk 8 51 hH51 ?_
   refine rdy [11] ?_
   refine az fun K hK => ?_
   go_simp
   refine hK.out _ _ (by with_reducible exact sfJRGS1) fun hH52 => ?_
   clear hK K hH51
   try simp only [pu]
   refine rdy [12] ?_
   refine az fun K hK => ?_
   go_simp
   refine hK.out _ _ (by with_reducible exact sfJRGS2) fun hH53 => ?_
   clear hK K hH52
   try simp only [pu]
   refine tk 13 9 hH53 ?_
   refine dn ?_ _
   rotate_left 1
   refine an 7 fun K hK => ?_
   go_simp
   refine hK.out _ _ (by with_reducible exact sfJG) fun hH54 => ?_
   clear hK K hH44
   try simp only [pu]
   refine rdy [2] ?_
   refine an 46 fun K hK => ?_
   go_simp; (
    (with_reducible refine (kr3 _ _ (rd_strs3 (((y6.alloc 23 #[.string ⟨#[]⟩, .int .i64 0, .int .i64 0]).alloc 32 #[.string ⟨#[]⟩, .int .i64 0, .string ⟨#[]⟩, .int .i64 0, .slice none 0 0, .slice none 0 0, .slice none 0 0]).drew.tail.tail.tail.tail.tail.tail.blk))).mono ?_)
    rintro e wJGR ⟨rfl, bR⟩
    have yJGR := ((y6.alloc 23 #[.string ⟨#[]⟩, .int .i64 0, .int .i64 0]).alloc 32 #[.string ⟨#[]⟩, .int .i64 0, .string ⟨#[]⟩, .int .i64 0, .slice none 0 0, .slice none 0 0, .slice none 0 0]).drew.under bR
    try simp only [World.size_alloc] at yJGR
    have sfJGR := hS _ (yJGR.tail.tail.tail.blk)); go_wp2_with fail
   refine hK.out _ _ (by with_reducible exact sfJGR) fun hH55 => ?_
   clear hK K hH54
   try simp only [pu]
   refine tk 3 47 hH55 ?_
   refine rdy [4] ?_
   refine an 48 fun K hK => ?_
   go_simp; (
    (with_reducible refine (ks2 _).mono ?_)
    rintro e wJGRS ⟨ua, ub, rfl, t2⟩
    obtain ⟨A3, n3, rfl, _, _⟩ := own_form t2.own
    obtain ⟨A4, n4, rfl, _, _⟩ := own_form t2.tail.own
    have yJGRS := yJGR.join t2
    try simp only [World.size_alloc] at yJGRS
    have ltG := (yJGRS.tail.tail).blk.lt
    have neG : ¬ (wJGRS.heap.size = w6.heap.size + 1) := Nat.ne_of_gt ltG
    have ltJ := (yJGRS.tail.tail.tail).blk.lt
    have neJ : ¬ (wJGRS.heap.size = w6.heap.size) := Nat.ne_of_gt ltJ
    have ltJG : w6.heap.size < w6.heap.size + 1 := by first | exact ((y6.alloc 23 #[.string ⟨#[]⟩, .int .i64 0, .int .i64 0]).drew).blk.lt | (have := ((y6.alloc 23 #[.string ⟨#[]⟩, .int .i64 0, .int .i64 0]).drew).blk.lt; simp only [World.size_alloc] at this; exact this) | (have := ((y6.alloc 23 #[.string ⟨#[]⟩, .int .i64 0, .int .i64 0]).drew).blk.lt; simp only [World.size_drew, World.size_alloc] at this; exact this)
    have neJG : ¬ (w6.heap.size = w6.heap.size + 1) := Nat.ne_of_lt ltJG
    have neGJ : ¬ (w6.heap.size + 1 = w6.heap.size) := Nat.ne_of_gt ltJG
    have sfJGRS := hS _ (yJGRS.tail.tail.tail.tail.tail.blk)
    have qJGRS1 := ((((((((yJGRS.pk [2, 0, 1, 3, 4, 5, 6, 7, 8]).set_ 0 (.string ⟨#[108, 111, 103]⟩)).set_ 1 (.int .i64 3)).set_ 2 (.string ⟨R3.toArray⟩)).set_ 3 (.int .i64 1)).set_ 4 (.slice A3 cB.length n3)).set_ 5 (.slice A4 tB.length n4)).set_ 6 (.slice none 0 0))
    have sfJGRS1 := hS _ (qJGRS1.tail.tail.tail.tail.tail.blk)
    clear qJGRS1
    have qJGRS2 := ((((((((((((yJGRS.pk [2, 0, 1, 3, 4, 5, 6, 7, 8]).set_ 0 (.string ⟨#[108, 111, 103]⟩)).set_ 1 (.int .i64 3)).set_ 2 (.string ⟨R3.toArray⟩)).set_ 3 (.int .i64 1)).set_ 4 (.slice A3 cB.length n3)).set_ 5 (.slice A4 tB.length n4)).set_ 6 (.slice none 0 0)).pk [3, 0, 1, 2, 4, 5, 6, 7, 8]).set_ 0 (.string ⟨SR.toArray⟩)).set_ 1 (.int .i64 1)).set_ 2 (.int .i64 2))
    have sfJGRS2 := hS _ (qJGRS2.tail.tail.tail.tail.tail.blk)
    clear qJGRS2
    obtain ⟨_, _, _, _, _, _, _, _, _, _, _, _, _, _⟩ := bk7 yJGRS.tail.tail.blk
    obtain ⟨_, _, _, _, _, _⟩ := bk3 yJGRS.tail.tail.tail.blk); go_wp2_with fail
   refine hK.out _ _ (by with_reducible exact sfJGRS) fun hH56 => ?_
   clear hK K hH55
   try simp only [pu]
   refine tk 5 43 hH56 ?_
   refine tk 6 49 hH56 ?_
   refine tk 7 50 hH56 ?_
   refine tk 8 51 hH56 ?_
   refine rdy [11] ?_
   refine az fun K hK => ?_
   go_simp
   refine hK.out _ _ (by with_reducible exact sfJGRS1) fun hH57 => ?_
   clear hK K hH56
   try simp only [pu]
   refine rdy [12] ?_
   refine az fun K hK => ?_
   go_simp
   refine hK.out _ _ (by with_reducible exact sfJGRS2) fun hH58 => ?_
   clear hK K hH57
   try simp only [pu]
   refine tk 13 9 hH58 ?_
   refine dn ?_ _
   all_goals (refine NoPanic.normal ?_)
   all_goals
    first
     | (have yF := ((yRS.alloc 32 #[.string ⟨#[108, 111, 103]⟩, .int .i64 3, .string ⟨R3.toArray⟩, .int .i64 1, .slice A3 cB.length n3, .slice A4 tB.length n4, .slice none 0 0]).alloc 23 #[.string ⟨SR.toArray⟩, .int .i64 1, .int .i64 2]).pk [1, 0, 2, 3, 4, 5, 6, 7, 8]
        try simp only [ws] at yF
        obtain ⟨pJ, hpJ⟩ : ∃ q, wRS.heap.size + 1 = q := ⟨_, rfl⟩
        rw [hpJ] at yF ⊢
        obtain ⟨pG, hpG⟩ : ∃ q, wRS.heap.size = q := ⟨_, rfl⟩
        rw [hpG] at yF ⊢
        exact ⟨rfl, pG, pJ, A3, A4, n3, n4, rfl, yF⟩)
     | (have yF := ((yRS.alloc 23 #[.string ⟨SR.toArray⟩, .int .i64 1, .int .i64 2]).alloc 32 #[.string ⟨#[108, 111, 103]⟩, .int .i64 3, .string ⟨R3.toArray⟩, .int .i64 1, .slice A3 cB.length n3, .slice A4 tB.length n4, .slice none 0 0]).pk [0, 1, 2, 3, 4, 5, 6, 7, 8]
        try simp only [ws] at yF
        obtain ⟨pG, hpG⟩ : ∃ q, wRS.heap.size + 1 = q := ⟨_, rfl⟩
        rw [hpG] at yF ⊢
        obtain ⟨pJ, hpJ⟩ : ∃ q, wRS.heap.size = q := ⟨_, rfl⟩
        rw [hpJ] at yF ⊢
        exact ⟨rfl, pG, pJ, A3, A4, n3, n4, rfl, yF⟩)
     | (have yF := (((((((((yRGS.pk [2, 0, 1, 3, 4, 5, 6, 7]).set_ 0 (.string ⟨#[108, 111, 103]⟩)).set_ 1 (.int .i64 3)).set_ 2 (.string ⟨R3.toArray⟩)).set_ 3 (.int .i64 1)).set_ 4 (.slice A3 cB.length n3)).set_ 5 (.slice A4 tB.length n4)).set_ 6 (.slice none 0 0)).alloc 23 #[.string ⟨SR.toArray⟩, .int .i64 1, .int .i64 2]).pk [1, 0, 2, 3, 4, 5, 6, 7, 8]
        try simp only [ws] at yF
        obtain ⟨pJ, hpJ⟩ : ∃ q, wRGS.heap.size = q := ⟨_, rfl⟩
        rw [hpJ] at yF ⊢
        obtain ⟨pG, hpG⟩ : ∃ q, wR.heap.size = q := ⟨_, rfl⟩
        rw [hpG] at yF ⊢
        exact ⟨rfl, pG, pJ, A3, A4, n3, n4, rfl, yF⟩)
     | (have yF := ((((((((((((yRGJS.pk [3, 0, 1, 2, 4, 5, 6, 7, 8]).set_ 0 (.string ⟨#[108, 111, 103]⟩)).set_ 1 (.int .i64 3)).set_ 2 (.string ⟨R3.toArray⟩)).set_ 3 (.int .i64 1)).set_ 4 (.slice A3 cB.length n3)).set_ 5 (.slice A4 tB.length n4)).set_ 6 (.slice none 0 0)).pk [3, 0, 1, 2, 4, 5, 6, 7, 8]).set_ 0 (.string ⟨SR.toArray⟩)).set_ 1 (.int .i64 1)).set_ 2 (.int .i64 2)).pk [1, 0, 2, 3, 4, 5, 6, 7, 8]
        try simp only [ws] at yF
        obtain ⟨pJ, hpJ⟩ : ∃ q, wR.heap.size + 1 = q := ⟨_, rfl⟩
        rw [hpJ] at yF ⊢
        obtain ⟨pG, hpG⟩ : ∃ q, wR.heap.size = q := ⟨_, rfl⟩
        rw [hpG] at yF ⊢
        exact ⟨rfl, pG, pJ, A3, A4, n3, n4, rfl, yF⟩)
     | (have yF := (((((yRJS.pk [2, 0, 1, 3, 4, 5, 6, 7]).set_ 0 (.string ⟨SR.toArray⟩)).set_ 1 (.int .i64 1)).set_ 2 (.int .i64 2)).alloc 32 #[.string ⟨#[108, 111, 103]⟩, .int .i64 3, .string ⟨R3.toArray⟩, .int .i64 1, .slice A3 cB.length n3, .slice A4 tB.length n4, .slice none 0 0]).pk [0, 1, 2, 3, 4, 5, 6, 7, 8]
        try simp only [ws] at yF
        obtain ⟨pG, hpG⟩ : ∃ q, wRJS.heap.size = q := ⟨_, rfl⟩
        rw [hpG] at yF ⊢
        obtain ⟨pJ, hpJ⟩ : ∃ q, wR.heap.size = q := ⟨_, rfl⟩
        rw [hpJ] at yF ⊢
        exact ⟨rfl, pG, pJ, A3, A4, n3, n4, rfl, yF⟩)
     | (have yF := ((((((((((((yRJGS.pk [2, 0, 1, 3, 4, 5, 6, 7, 8]).set_ 0 (.string ⟨#[108, 111, 103]⟩)).set_ 1 (.int .i64 3)).set_ 2 (.string ⟨R3.toArray⟩)).set_ 3 (.int .i64 1)).set_ 4 (.slice A3 cB.length n3)).set_ 5 (.slice A4 tB.length n4)).set_ 6 (.slice none 0 0)).pk [3, 0, 1, 2, 4, 5, 6, 7, 8]).set_ 0 (.string ⟨SR.toArray⟩)).set_ 1 (.int .i64 1)).set_ 2 (.int .i64 2)).pk [1, 0, 2, 3, 4, 5, 6, 7, 8]
        try simp only [ws] at yF
        obtain ⟨pG, hpG⟩ : ∃ q, wR.heap.size + 1 = q := ⟨_, rfl⟩
        rw [hpG] at yF ⊢
        obtain ⟨pJ, hpJ⟩ : ∃ q, wR.heap.size = q := ⟨_, rfl⟩
        rw [hpJ] at yF ⊢
        exact ⟨rfl, pG, pJ, A3, A4, n3, n4, rfl, yF⟩)
     | (have yF := (((((((((yGRS.pk [2, 0, 1, 3, 4, 5, 6, 7]).set_ 0 (.string ⟨#[108, 111, 103]⟩)).set_ 1 (.int .i64 3)).set_ 2 (.string ⟨R3.toArray⟩)).set_ 3 (.int .i64 1)).set_ 4 (.slice A3 cB.length n3)).set_ 5 (.slice A4 tB.length n4)).set_ 6 (.slice none 0 0)).alloc 23 #[.string ⟨SR.toArray⟩, .int .i64 1, .int .i64 2]).pk [1, 0, 2, 3, 4, 5, 6, 7, 8]
        try simp only [ws] at yF
        obtain ⟨pJ, hpJ⟩ : ∃ q, wGRS.heap.size = q := ⟨_, rfl⟩
        rw [hpJ] at yF ⊢
        obtain ⟨pG, hpG⟩ : ∃ q, w6.heap.size = q := ⟨_, rfl⟩
        rw [hpG] at yF ⊢
        exact ⟨rfl, pG, pJ, A3, A4, n3, n4, rfl, yF⟩)
     | (have yF := ((((((((((((yGRJS.pk [3, 0, 1, 2, 4, 5, 6, 7, 8]).set_ 0 (.string ⟨#[108, 111, 103]⟩)).set_ 1 (.int .i64 3)).set_ 2 (.string ⟨R3.toArray⟩)).set_ 3 (.int .i64 1)).set_ 4 (.slice A3 cB.length n3)).set_ 5 (.slice A4 tB.length n4)).set_ 6 (.slice none 0 0)).pk [3, 0, 1, 2, 4, 5, 6, 7, 8]).set_ 0 (.string ⟨SR.toArray⟩)).set_ 1 (.int .i64 1)).set_ 2 (.int .i64 2)).pk [1, 0, 2, 3, 4, 5, 6, 7, 8]
        try simp only [ws] at yF
        obtain ⟨pJ, hpJ⟩ : ∃ q, wGR.heap.size = q := ⟨_, rfl⟩
        rw [hpJ] at yF ⊢
        obtain ⟨pG, hpG⟩ : ∃ q, w6.heap.size = q := ⟨_, rfl⟩
        rw [hpG] at yF ⊢
        exact ⟨rfl, pG, pJ, A3, A4, n3, n4, rfl, yF⟩)
     | (have yF := ((((((((((((yGJRS.pk [3, 0, 1, 2, 4, 5, 6, 7, 8]).set_ 0 (.string ⟨#[108, 111, 103]⟩)).set_ 1 (.int .i64 3)).set_ 2 (.string ⟨R3.toArray⟩)).set_ 3 (.int .i64 1)).set_ 4 (.slice A3 cB.length n3)).set_ 5 (.slice A4 tB.length n4)).set_ 6 (.slice none 0 0)).pk [3, 0, 1, 2, 4, 5, 6, 7, 8]).set_ 0 (.string ⟨SR.toArray⟩)).set_ 1 (.int .i64 1)).set_ 2 (.int .i64 2)).pk [1, 0, 2, 3, 4, 5, 6, 7, 8]
        try simp only [ws] at yF
        obtain ⟨pJ, hpJ⟩ : ∃ q, w6.heap.size + 1 = q := ⟨_, rfl⟩
        rw [hpJ] at yF ⊢
        obtain ⟨pG, hpG⟩ : ∃ q, w6.heap.size = q := ⟨_, rfl⟩
        rw [hpG] at yF ⊢
        exact ⟨rfl, pG, pJ, A3, A4, n3, n4, rfl, yF⟩)
     | (have yF := (((((yJRS.pk [2, 0, 1, 3, 4, 5, 6, 7]).set_ 0 (.string ⟨SR.toArray⟩)).set_ 1 (.int .i64 1)).set_ 2 (.int .i64 2)).alloc 32 #[.string ⟨#[108, 111, 103]⟩, .int .i64 3, .string ⟨R3.toArray⟩, .int .i64 1, .slice A3 cB.length n3, .slice A4 tB.length n4, .slice none 0 0]).pk [0, 1, 2, 3, 4, 5, 6, 7, 8]
        try simp only [ws] at yF
        obtain ⟨pG, hpG⟩ : ∃ q, wJRS.heap.size = q := ⟨_, rfl⟩
        rw [hpG] at yF ⊢
        obtain ⟨pJ, hpJ⟩ : ∃ q, w6.heap.size = q := ⟨_, rfl⟩
        rw [hpJ] at yF ⊢
        exact ⟨rfl, pG, pJ, A3, A4, n3, n4, rfl, yF⟩)
     | (have yF := ((((((((((((yJRGS.pk [2, 0, 1, 3, 4, 5, 6, 7, 8]).set_ 0 (.string ⟨#[108, 111, 103]⟩)).set_ 1 (.int .i64 3)).set_ 2 (.string ⟨R3.toArray⟩)).set_ 3 (.int .i64 1)).set_ 4 (.slice A3 cB.length n3)).set_ 5 (.slice A4 tB.length n4)).set_ 6 (.slice none 0 0)).pk [3, 0, 1, 2, 4, 5, 6, 7, 8]).set_ 0 (.string ⟨SR.toArray⟩)).set_ 1 (.int .i64 1)).set_ 2 (.int .i64 2)).pk [1, 0, 2, 3, 4, 5, 6, 7, 8]
        try simp only [ws] at yF
        obtain ⟨pG, hpG⟩ : ∃ q, wJR.heap.size = q := ⟨_, rfl⟩
        rw [hpG] at yF ⊢
        obtain ⟨pJ, hpJ⟩ : ∃ q, w6.heap.size = q := ⟨_, rfl⟩
        rw [hpJ] at yF ⊢
        exact ⟨rfl, pG, pJ, A3, A4, n3, n4, rfl, yF⟩)
     | (have yF := ((((((((((((yJGRS.pk [2, 0, 1, 3, 4, 5, 6, 7, 8]).set_ 0 (.string ⟨#[108, 111, 103]⟩)).set_ 1 (.int .i64 3)).set_ 2 (.string ⟨R3.toArray⟩)).set_ 3 (.int .i64 1)).set_ 4 (.slice A3 cB.length n3)).set_ 5 (.slice A4 tB.length n4)).set_ 6 (.slice none 0 0)).pk [3, 0, 1, 2, 4, 5, 6, 7, 8]).set_ 0 (.string ⟨SR.toArray⟩)).set_ 1 (.int .i64 1)).set_ 2 (.int .i64 2)).pk [1, 0, 2, 3, 4, 5, 6, 7, 8]
        try simp only [ws] at yF
        obtain ⟨pG, hpG⟩ : ∃ q, w6.heap.size + 1 = q := ⟨_, rfl⟩
        rw [hpG] at yF ⊢
        obtain ⟨pJ, hpJ⟩ : ∃ q, w6.heap.size = q := ⟨_, rfl⟩
        rw [hpJ] at yF ⊢
        exact ⟨rfl, pG, pJ, A3, A4, n3, n4, rfl, yF⟩)
  case k =>
   rintro pb kb A3 A4 n3 n4 w7 y7
   obtain ⟨ucB1, ucB2⟩ : cB.length ≤ n3 ∧ n3 ≤ maxLen := by (obtain ⟨_, _, e, q1, q2⟩ := own_form y7.tail.tail.own; injection e with _ _ e; subst e; exact ⟨q1, q2⟩)
   obtain ⟨utB1, utB2⟩ : tB.length ≤ n4 ∧ n4 ≤ maxLen := by (obtain ⟨_, _, e, q1, q2⟩ := own_form y7.tail.tail.tail.own; injection e with _ _ e; subst e; exact ⟨q1, q2⟩)
   have UB := Lib.hid (And.intro ucB1 (And.intro ucB2 (And.intro utB1 utB2)))
   clear ucB1 ucB2 utB1 utB2
   have y8 := y7.pk [0, 2, 3, 4, 6, 7, 8]
   clear ks2 kr3 y6 y7 hS
   go_wp2_with fail
   refine (kw _).mono ?_
   rintro e w8 ⟨rfl, b8⟩
   have y9 := y8.under b8
   clear kw b8 y8
   go_wp2_with fail
   refine (knw _).mono ?_
   rintro e w9 ⟨rfl, b9⟩
   have y10 := (y9.under b9).alloc 37 #[.string ⟨#[108, 111, 103]⟩, .string ⟨PR.toArray⟩, .string ⟨SW.toArray⟩, .int .i64 1, .int .i64 0, .string ⟨#[108, 111, 103]⟩, .int .i64 0, .string ⟨R0.toArray⟩]
   obtain ⟨pw, hpw⟩ : ∃ q, w9.heap.size = q := ⟨_, rfl⟩
   rw [hpw] at y10
   obtain ⟨w10, hw10⟩ : ∃ q, w9.alloc (.cells #[.string ⟨#[108, 111, 103]⟩, .string ⟨PR.toArray⟩, .string ⟨SW.toArray⟩, .int .i64 1, .int .i64 0, .string ⟨#[108, 111, 103]⟩, .int .i64 0, .string ⟨R0.toArray⟩] 37) = q := ⟨_, rfl⟩
   rw [hw10] at y10
   clear knw b9 y9
   have a0 := y10.tail.tail.tail.tail.blk.cell 0
   have a1 := y10.tail.tail.tail.tail.blk.cell 1
   have a2 := y10.tail.tail.tail.tail.blk.cell 2
   have a3 := y10.tail.tail.tail.tail.blk.cell 3
   have a4 := y10.tail.tail.tail.tail.blk.cell 4
   have a5 := y10.tail.tail.tail.tail.blk.cell 5
   have a6 := y10.tail.tail.tail.tail.blk.cell 6
   go_wp2_with fail
   refine (kva _ _ _ _ _ (Rd.of_own y10.tail.tail.tail.tail.tail.own) (Rd.of_own y10.tail.tail.tail.tail.tail.tail.own) UA.out.1 UA.out.2.1 UA.out.2.2.1 UA.out.2.2.2).mono ?_
   rintro e w11 ⟨rfl, b11⟩
   have y11 := y10.under b11
   clear kva b11 y10 hw10 hpw a0 a1 a2 a3 a4 a5 a6
   have a0 := y11.tail.tail.tail.tail.blk.cell 0
   have a1 := y11.tail.tail.tail.tail.blk.cell 1
   have a2 := y11.tail.tail.tail.tail.blk.cell 2
   have a3 := y11.tail.tail.tail.tail.blk.cell 3
   have a4 := y11.tail.tail.tail.tail.blk.cell 4
   have a5 := y11.tail.tail.tail.tail.blk.cell 5
   have a6 := y11.tail.tail.tail.tail.blk.cell 6
   go_wp2_with fail
   refine (kvn _ _ _ _ _ (Rd.of_own y11.tail.tail.tail.tail.tail.own) (Rd.of_own y11.tail.tail.tail.tail.tail.tail.own) UA.out.1 UA.out.2.1 UA.out.2.2.1 UA.out.2.2.2).mono ?_
   rintro e w12 ⟨rfl, b12⟩
   have y12 := y11.under b12
   clear kvn b12 y11 a0 a1 a2 a3 a4 a5 a6
   have wc0 := y12.blk.cell 0
   have wc1 := y12.blk.cell 1
   have wc2 := y12.blk.cell 2
   have wc3 := y12.blk.cell 3
   have wc4 := y12.blk.cell 4
   have wc5 := y12.blk.cell 5
   have wc6 := y12.blk.cell 6
   have wc7 := y12.blk.cell 7
   have a0 := y12.tail.tail.tail.tail.blk.cell 0
   have a1 := y12.tail.tail.tail.tail.blk.cell 1
   have a2 := y12.tail.tail.tail.tail.blk.cell 2
   have a3 := y12.tail.tail.tail.tail.blk.cell 3
   have a4 := y12.tail.tail.tail.tail.blk.cell 4
   have a5 := y12.tail.tail.tail.tail.blk.cell 5
   have a6 := y12.tail.tail.tail.tail.blk.cell 6
   go_wp2_with fail
   refine (ko1 _ _ _ _ _ (Rd.of_own y12.tail.tail.tail.tail.tail.own) (Rd.of_own y12.tail.tail.tail.tail.tail.tail.own) UA.out.1 UA.out.2.1 UA.out.2.2.1 UA.out.2.2.2).mono ?_
   rintro e w13 ⟨va, vb, rfl, t13⟩
   obtain ⟨A5, n5, rfl, ux1, ux2⟩ := own_form t13.own
   obtain ⟨A6, n6, rfl, ux3, ux4⟩ := own_form t13.tail.own
   have UX := Lib.hid (And.intro ux1 (And.intro ux2 (And.intro ux3 ux4)))
   have y13 := (y12.join t13).pk [2, 0, 1, 3, 4, 5, 6, 7, 8, 9]
   clear ko1 t13 y12 ux1 ux2 ux3 ux4 wc0 wc1 wc2 wc3 wc4 wc5 wc6 wc7 a0 a1 a2 a3 a4 a5 a6
   have wc0 := y13.blk.cell 0
   have wc1 := y13.blk.cell 1
   have wc2 := y13.blk.cell 2
   have wc3 := y13.blk.cell 3
   have wc4 := y13.blk.cell 4
   have wc5 := y13.blk.cell 5
   have wc6 := y13.blk.cell 6
   have wc7 := y13.blk.cell 7
   have wz0 := y13.blk.frozen 0
   have wz1 := y13.blk.frozen 1
   have wz2 := y13.blk.frozen 2
   have wz3 := y13.blk.frozen 3
   have wz4 := y13.blk.frozen 4
   have wz5 := y13.blk.frozen 5
   have wz6 := y13.blk.frozen 6
   have wz7 := y13.blk.frozen 7
   have wlt := y13.blk.lt
   have y14 := (((((((((y13.set_ 0 (.string ⟨#[108, 111, 103]⟩)).set_ 1 (.string ⟨PR.toArray⟩)).set_ 2 (.string ⟨SW.toArray⟩)).set_ 3 (.int .i64 1)).set_ 4 (.int .i64 1)).set_ 5 (.string ⟨#[108, 111, 103]⟩)).set_ 6 (.int .i64 2)).set_ 7 (.string ⟨R2.toArray⟩))).alloc 64 #[.string ⟨PW.toArray⟩, .int .i64 0, .slice A5 cX.length n5, .slice A6 tX.length n6]
   simp only [World.size_setCell] at y14
   obtain ⟨px, hpx⟩ : ∃ q, w13.heap.size = q := ⟨_, rfl⟩
   rw [hpx] at y14
   have wlt2 := wlt
   rw [hpx] at wlt2
   have wne : ¬ (pw = px) := Nat.ne_of_lt wlt2
   have wne2 : ¬ (px = pw) := Nat.ne_of_gt wlt2
   obtain ⟨w14, hw14, y14⟩ : ∃ q, _ = q ∧ St w.heap.size w q _ := ⟨_, rfl, y14⟩
   clear y13
   go_wp2_with fail
   clear hw14 hpx wc0 wc1 wc2 wc3 wc4 wc5 wc6 wc7 wz0 wz1 wz2 wz3 wz4 wz5 wz6 wz7 wlt wlt2 wne wne2
   apply region_viaV (fun (va vb : Value) w' => St w.heap.size w w' [cellsR (pw) 37 #[.string ⟨#[108, 111, 103]⟩, .string ⟨PR.toArray⟩, .string ⟨SW.toArray⟩, .int .i64 1, .int .i64 2, .string ⟨#[108, 111, 103]⟩, .int .i64 3, .string ⟨R3.toArray⟩], cellsR (px) 64 #[.string ⟨PW.toArray⟩, .int .i64 0, .slice A5 cX.length n5, .slice A6 tX.length n6], ownR 9 1 (.slice A5 cX.length n5) cX.length (strs cX), ownR 9 1 (.slice A6 tX.length n6) tX.length (strs tX), cellsR (pb) 32 #[.string ⟨#[108, 111, 103]⟩, .int .i64 3, .string ⟨R3.toArray⟩, .int .i64 1, .slice A3 cB.length n3, .slice A4 tB.length n4, .slice none 0 0], ownR 9 1 (.slice A3 cB.length n3) cB.length (strs cB), ownR 9 1 (.slice A4 tB.length n4) tB.length (strs tB), cellsR (pa) 32 #[.string ⟨#[108, 111, 103]⟩, .int .i64 2, .string ⟨R2.toArray⟩, .int .i64 0, .slice A1 cA.length n1, .slice A2 tA.length n2, .slice none 0 0], ownR 9 1 (.slice A1 cA.length n1) cA.length (strs cA), ownR 9 1 (.slice A2 tA.length n2) tA.length (strs tA), cellsR (g) 9 #[.string ⟨la.toArray⟩, .string ⟨lb.toArray⟩, .string ⟨lc.toArray⟩]])
   case h =>
    have hS : ∀ W', Blk W' pb 32 #[.string ⟨#[108, 111, 103]⟩, .int .i64 3, .string ⟨R3.toArray⟩, .int .i64 1, .slice A3 cB.length n3, .slice A4 tB.length n4, .slice none 0 0] → (W'.cell? ⟨pb, 0, none⟩ = some (.string ⟨#[108, 111, 103]⟩) ∧ W'.cell? ⟨pb, 1, none⟩ = some (.int .i64 3) ∧ W'.cell? ⟨pb, 2, none⟩ = some (.string ⟨R3.toArray⟩) ∧ W'.cell? ⟨pb, 3, none⟩ = some (.int .i64 1) ∧ W'.cell? ⟨pb, 4, none⟩ = some (.slice A3 cB.length n3) ∧ W'.cell? ⟨pb, 5, none⟩ = some (.slice A4 tB.length n4) ∧ W'.cell? ⟨pb, 6, none⟩ = some (.slice none 0 0)) := fun W' hh => ⟨hh.cell 0, hh.cell 1, hh.cell 2, hh.cell 3, hh.cell 4, hh.cell 5, hh.cell 6⟩
    have s0 := hS _ (y14.drew.tail.tail.tail.tail).blk
    have wc0 := y14.tail.blk.cell 0
    have wc1 := y14.tail.blk.cell 1
    have wc2 := y14.tail.blk.cell 2
    have wc3 := y14.tail.blk.cell 3
    have wc4 := y14.tail.blk.cell 4
    have wc5 := y14.tail.blk.cell 5
    have wc6 := y14.tail.blk.cell 6
    have wc7 := y14.tail.blk.cell 7
    refine wp_region_noPanic ?_
    refine wp_region_held_drew (S := (fun W' => W'.cell? ⟨pb, 0, none⟩ = some (.string ⟨#[108, 111, 103]⟩) ∧ W'.cell? ⟨pb, 1, none⟩ = some (.int .i64 3) ∧ W'.cell? ⟨pb, 2, none⟩ = some (.string ⟨R3.toArray⟩) ∧ W'.cell? ⟨pb, 3, none⟩ = some (.int .i64 1) ∧ W'.cell? ⟨pb, 4, none⟩ = some (.slice A3 cB.length n3) ∧ W'.cell? ⟨pb, 5, none⟩ = some (.slice A4 tB.length n4) ∧ W'.cell? ⟨pb, 6, none⟩ = some (.slice none 0 0))) (by kernel_rfl) ?_ (fun hH0 => ?_)
    ·(first
       | with_reducible exact s0
       | with_reducible exact s1
       | with_reducible exact s2
       | fail)
    refine tk 1 87 hH0 ?_
    refine tk 2 88 hH0 ?_
    refine tk 3 89 hH0 ?_
    refine rdy [0] ?_
    refine an 86 fun K hK => ?_
    go_simp
    refine hK.out _ _ ?_ (fun hH1 => ?_)
    ·(first
       | with_reducible exact s0
       | with_reducible exact s1
       | with_reducible exact s2
       | fail)
    clear hK K hH0
    try simp only [pu]
    refine rdy [4] ?_
    refine an 90 fun K hK => ?_
    go_simp; (first
     | ((with_reducible refine (ko2 _ _ _ _ _ _ _ (Rd.of_own y14.drew.tail.tail.tail.tail.tail.own) (Rd.of_own y14.drew.tail.tail.tail.tail.tail.tail.own) UB.out.1 UB.out.2.1 UB.out.2.2.1 UB.out.2.2.2 (rd_strs3l y14.drew.tail.tail.tail.tail.tail.tail.tail.tail.tail.tail.blk) (Nat.le_refl 1) (by decide)).mono ?_)
        rintro e w15 ⟨va, vb, rfl, t15⟩
        have y15 := (y14.drew.join t15).pk [3, 2, 4, 5, 6, 7, 8, 9, 10, 11, 12]
        have yc0 := y15.blk.cell 0
        have yc1 := y15.blk.cell 1
        have yc2 := y15.blk.cell 2
        have yc3 := y15.blk.cell 3
        have yc4 := y15.blk.cell 4
        have yc5 := y15.blk.cell 5
        have yc6 := y15.blk.cell 6
        have yc7 := y15.blk.cell 7
        have yf0 := y15.blk.frozen 0
        have yf1 := y15.blk.frozen 1
        have yf2 := y15.blk.frozen 2
        have yf3 := y15.blk.frozen 3
        have yf4 := y15.blk.frozen 4
        have yf5 := y15.blk.frozen 5
        have yf6 := y15.blk.frozen 6
        have yf7 := y15.blk.frozen 7
        have ylt := y15.blk.lt
        have s1 := hS _ (y15.tail.tail.tail.tail).blk
        have y16 := ((((((((y15.set_ 0 (.string ⟨#[108, 111, 103]⟩)).set_ 1 (.string ⟨PR.toArray⟩)).set_ 2 (.string ⟨SW.toArray⟩)).set_ 3 (.int .i64 1)).set_ 4 (.int .i64 2)).set_ 5 (.string ⟨#[108, 111, 103]⟩)).set_ 6 (.int .i64 3)).set_ 7 (.string ⟨R3.toArray⟩))
        simp only [List.setIfInBounds_toArray, List.set_cons_zero, List.set_cons_succ] at y16
        have s2 := hS _ (y16.tail.tail.tail.tail).blk)
     | fail); go_wp2_with fail
    refine hK.out _ _ ?_ (fun hH2 => ?_)
    ·(first
       | with_reducible exact s0
       | with_reducible exact s1
       | with_reducible exact s2
       | fail)
    clear hK K hH1
    try simp only [pu]
    refine tk 5 85 hH2 ?_
    refine tk 6 91 hH2 ?_
    refine tk 7 92 hH2 ?_
    refine tk 8 93 hH2 ?_
    refine rdy [9] ?_
    refine az fun K hK => ?_
    go_simp
    refine hK.out _ _ ?_ (fun hH3 => ?_)
    ·(first
       | with_reducible exact s0
       | with_reducible exact s1
       | with_reducible exact s2
       | fail)
    clear hK K hH2
    try simp only [pu]
    refine tk 10 9 hH3 ?_
    refine dn ?_ _
    all_goals (refine NoPanic.normal ?_)
    all_goals
     refine ⟨rfl, va, vb, ?_⟩
     have Y16 := Lib.hid y16
     clear y16
     refine ⟨rfl, ?_⟩
     exact Y16.out
   case k =>
    rintro va vb w16 y16
    clear ko2 y14
    have wc0 := y16.blk.cell 0
    have wc1 := y16.blk.cell 1
    have wc2 := y16.blk.cell 2
    have wc3 := y16.blk.cell 3
    have wc4 := y16.blk.cell 4
    have wc5 := y16.blk.cell 5
    have wc6 := y16.blk.cell 6
    have wc7 := y16.blk.cell 7
    have a0 := y16.tail.tail.tail.tail.tail.tail.tail.blk.cell 0
    have a1 := y16.tail.tail.tail.tail.tail.tail.tail.blk.cell 1
    have a2 := y16.tail.tail.tail.tail.tail.tail.tail.blk.cell 2
    have a3 := y16.tail.tail.tail.tail.tail.tail.tail.blk.cell 3
    have a4 := y16.tail.tail.tail.tail.tail.tail.tail.blk.cell 4
    have a5 := y16.tail.tail.tail.tail.tail.tail.tail.blk.cell 5
    have a6 := y16.tail.tail.tail.tail.tail.tail.tail.blk.cell 6
    go_wp2_with fail
    refine (ko3 _ _ _ _ _ (Rd.of_own y16.tail.tail.tail.tail.tail.tail.tail.tail.own) (Rd.of_own y16.tail.tail.tail.tail.tail.tail.tail.tail.tail.own) UA.out.1 UA.out.2.1 UA.out.2.2.1 UA.out.2.2.2).mono ?_
    rintro e w17 ⟨vc, vd, rfl, b17⟩
    have y17 := y16.under b17
    clear ko3 b17 y16 wc0 wc1 wc2 wc3 wc4 wc5 wc6 wc7 a0 a1 a2 a3 a4 a5 a6
    have bb0 := y17.tail.tail.tail.tail.blk.cell 0
    have bb1 := y17.tail.tail.tail.tail.blk.cell 1
    have bb2 := y17.tail.tail.tail.tail.blk.cell 2
    have bb3 := y17.tail.tail.tail.tail.blk.cell 3
    have bb4 := y17.tail.tail.tail.tail.blk.cell 4
    have bb5 := y17.tail.tail.tail.tail.blk.cell 5
    have bb6 := y17.tail.tail.tail.tail.blk.cell 6
    have a0 := y17.tail.tail.tail.tail.tail.tail.tail.blk.cell 0
    have a1 := y17.tail.tail.tail.tail.tail.tail.tail.blk.cell 1
    have a2 := y17.tail.tail.tail.tail.tail.tail.tail.blk.cell 2
    have a3 := y17.tail.tail.tail.tail.tail.tail.tail.blk.cell 3
    have a4 := y17.tail.tail.tail.tail.tail.tail.tail.blk.cell 4
    have a5 := y17.tail.tail.tail.tail.tail.tail.tail.blk.cell 5
    have a6 := y17.tail.tail.tail.tail.tail.tail.tail.blk.cell 6
    go_wp2_with fail
    refine (kcmp _ _ _ _ _ _ _ _ _ _ (rd_strs3 y17.tail.tail.tail.tail.tail.tail.tail.tail.tail.tail.blk)).mono ?_
    rintro e w18 ⟨p1, p2, p3, rfl, b18⟩
    have y18 := (y17.under b18).alloc0 (.cells #[.string ⟨#[]⟩, .int .i64 0, .string ⟨#[]⟩, .int .i64 0, .slice none 0 0, .slice none 0 0, .slice none 0 0, .string ⟨#[]⟩, .int .i64 0, .string ⟨#[]⟩, .int .i64 0, .slice none 0 0, .slice none 0 0, .slice none 0 0, .string ⟨#[]⟩, .slice p1 p2 p3] 70)
    obtain ⟨w19, hw19, y19⟩ : ∃ q, _ = q ∧ St w.heap.size w q _ := ⟨_, rfl, y18⟩
    clear kcmp b18 y17 y18 bb0 bb1 bb2 bb3 bb4 bb5 bb6 a0 a1 a2 a3 a4 a5 a6
    have xc0 := y19.tail.blk.cell 0
    have xc1 := y19.tail.blk.cell 1
    have xc2 := y19.tail.blk.cell 2
    have xc3 := y19.tail.blk.cell 3
    have a0 := y19.tail.tail.tail.tail.tail.tail.tail.blk.cell 0
    have a1 := y19.tail.tail.tail.tail.tail.tail.tail.blk.cell 1
    have a2 := y19.tail.tail.tail.tail.tail.tail.tail.blk.cell 2
    have a3 := y19.tail.tail.tail.tail.tail.tail.tail.blk.cell 3
    have a4 := y19.tail.tail.tail.tail.tail.tail.tail.blk.cell 4
    have a5 := y19.tail.tail.tail.tail.tail.tail.tail.blk.cell 5
    have a6 := y19.tail.tail.tail.tail.tail.tail.tail.blk.cell 6
    have y20 := y19.new_own (e := 64) (size := 4) (v := .slice none 0 0) (n := 0) (xs := []) (Below.refl _ _) (World.ownsRow_nil _ _ _ _)
    have Y20 := Lib.hid y20
    clear y19 y20
    go_wp2_with (at_builtin; go_must (refine appendRow 30 (te := 64) #[.string ⟨PW.toArray⟩, .int .i64 0, .slice A5 cX.length n5, .slice A6 tX.length n6] Y20.out Tryz.underlying30 info_cos rfl (by decide) rfl _ _ rfl rfl rfl rfl (by intro u hu; simp at hu; rcases hu with rfl | rfl | rfl | rfl <;> rfl) (by decide) (by decide) ?_); intro v8 w21 y21; obtain ⟨X, cc, rfl, cb1, cb2⟩ := own_form y21.own; have UC := Lib.hid (And.intro cb1 cb2); clear cb1 cb2 hw19 xc0 xc1 xc2 xc3 a0 a1 a2 a3 a4 a5 a6; have a0 := (y21.tail.tail.tail.tail.tail.tail.tail.tail).blk.cell 0; have a1 := (y21.tail.tail.tail.tail.tail.tail.tail.tail).blk.cell 1; have a2 := (y21.tail.tail.tail.tail.tail.tail.tail.tail).blk.cell 2; have a3 := (y21.tail.tail.tail.tail.tail.tail.tail.tail).blk.cell 3; have a4 := (y21.tail.tail.tail.tail.tail.tail.tail.tail).blk.cell 4; have a5 := (y21.tail.tail.tail.tail.tail.tail.tail.tail).blk.cell 5; have a6 := (y21.tail.tail.tail.tail.tail.tail.tail.tail).blk.cell 6; have af6 := (y21.tail.tail.tail.tail.tail.tail.tail.tail).blk.frozen 6; have Y21 := Lib.hid y21; clear y21)
    have y22 : St w.heap.size w _ ([cellsR (pa) 32 #[.string ⟨#[108, 111, 103]⟩, .int .i64 2, .string ⟨R2.toArray⟩, .int .i64 0, .slice A1 cA.length n1, .slice A2 tA.length n2, .slice X 1 cc], ownR 64 4 (.slice X 1 cc) 1 (List.flatMap rowC [(⟨PW, 0, A5, cX, n5, A6, tX, n6⟩ : SgRow)]), ownR 9 1 (.slice A5 cX.length n5) cX.length (strs cX), ownR 9 1 (.slice A6 tX.length n6) tX.length (strs tX), ownR 9 1 (.slice A1 cA.length n1) cA.length (strs cA), ownR 9 1 (.slice A2 tA.length n2) tA.length (strs tA), cellsR (pb) 32 #[.string ⟨#[108, 111, 103]⟩, .int .i64 3, .string ⟨R3.toArray⟩, .int .i64 1, .slice A3 cB.length n3, .slice A4 tB.length n4, .slice none 0 0], ownR 9 1 (.slice A3 cB.length n3) cB.length (strs cB), ownR 9 1 (.slice A4 tB.length n4) tB.length (strs tB), cellsR (g) 9 #[.string ⟨la.toArray⟩, .string ⟨lb.toArray⟩, .string ⟨lc.toArray⟩], cellsR (pw) 37 #[.string ⟨#[108, 111, 103]⟩, .string ⟨PR.toArray⟩, .string ⟨SW.toArray⟩, .int .i64 1, .int .i64 2, .string ⟨#[108, 111, 103]⟩, .int .i64 3, .string ⟨R3.toArray⟩], cellsR (px) 64 #[.string ⟨PW.toArray⟩, .int .i64 0, .slice A5 cX.length n5, .slice A6 tX.length n6]]) := (Y21.out.pk [8, 0, 3, 4, 9, 10, 5, 6, 7, 11, 1, 2]).set_ 6 (.slice X 1 cc)
    have hRX : ∀ W' R0 Rs, St w.heap.size w W' (R0 :: ownR 64 4 (.slice X 1 cc) 1 (List.flatMap rowC [(⟨PW, 0, A5, cX, n5, A6, tX, n6⟩ : SgRow)]) :: ownR 9 1 (.slice A5 cX.length n5) cX.length (strs cX) :: ownR 9 1 (.slice A6 tX.length n6) tX.length (strs tX) :: Rs) → RowsR W' X [(⟨PW, 0, A5, cX, n5, A6, tX, n6⟩ : SgRow)] := fun W' R0 Rs hh => ⟨Rd.of_own hh.tail.own, fun x hx => by (rw [List.mem_singleton.1 hx]; exact ⟨Rd.of_own hh.tail.tail.own, Rd.of_own hh.tail.tail.tail.own, UX.out.1, UX.out.2.1, UX.out.2.2.1, UX.out.2.2.2⟩)⟩
    refine (kenc _ _ _ _ _ _ _ _ _ _ _ (Rd.of_own y22.tail.tail.tail.tail.own) (Rd.of_own y22.tail.tail.tail.tail.tail.own) UA.out.1 UA.out.2.1 UA.out.2.2.1 UA.out.2.2.2 (hRX _ _ _ y22)).mono ?_
    rintro e w22 ⟨rfl, b22⟩
    have y23 := y22.under b22
    clear kenc b22 y22 Y21 Y20 a0 a1 a2 a3 a4 a5 a6 af6
    go_wp2_with fail
    refine (kdec _).mono ?_
    rintro e w24 ⟨V, rfl, hV, okV, _, _, b24⟩
    have y24 := y23.under b24
    have okV0 := Lib.hid okV
    obtain ⟨Vo, Vz, Vr, Vi, VA, VC, Va, VB, VT, Vb, VX, VL, Vc⟩ := V
    unfold ckA
    dsimp only
    have y25 := y24.alloc 32 #[.string ⟨Vo.toArray⟩, .int .i64 Vz, .string ⟨Vr.toArray⟩, .int .i64 Vi, .slice VA VC.length Va, .slice VB VT.length Vb, .slice VX VL.length Vc]
    obtain ⟨pc, hpc⟩ : ∃ q, w24.heap.size = q := ⟨_, rfl⟩
    rw [hpc] at y25
    obtain ⟨w25, hw25, y25, ok25⟩ : ∃ q, w24.alloc (.cells #[.string ⟨Vo.toArray⟩, .int .i64 Vz, .string ⟨Vr.toArray⟩, .int .i64 Vi, .slice VA VC.length Va, .slice VB VT.length Vb, .slice VX VL.length Vc] 32) = q ∧ St w.heap.size w q _ ∧ CkV.ok q ⟨Vo, Vz, Vr, Vi, VA, VC, Va, VB, VT, Vb, VX, VL, Vc⟩ := ⟨_, rfl, y25, okV.below ((Below.refl _ w24).alloc (Nat.le_refl _) _)⟩
    have HV := Lib.hid hV
    clear kdec b24 y23 y24 okV okV0 hV
    go_wp2_with fail
    refine (kr _).mono ?_
    rintro e w26 ⟨rfl, b26⟩
    have y26 := y25.under b26
    have ok26 := ok25.below b26
    clear kr b26 y25 ok25 hw25 hpc
    go_wp2_with fail
    refine (krot _).mono ?_
    rintro e w27 ⟨ve, vf, rfl, t27⟩
    have ok27 := ok26.below t27.below
    obtain ⟨A7, n7, rfl, ur1, ur2⟩ := own_form t27.own
    obtain ⟨A8, n8, rfl, ur3, ur4⟩ := own_form t27.tail.own
    have UR := Lib.hid (And.intro ur1 (And.intro ur2 (And.intro ur3 ur4)))
    have y28 := ((y26.join t27).alloc 41 #[.string ⟨PR.toArray⟩, .int .i64 0, .slice A7 cR.length n7, .slice A8 tR.length n8]).alloc0 (.cells #[.string ⟨SR.toArray⟩, .int .i64 1, .int .i64 1] 23)
    obtain ⟨pr, hpr⟩ : ∃ q, w27.heap.size = q := ⟨_, rfl⟩
    rw [hpr] at y28
    obtain ⟨w28, hw28, y28, ok28⟩ : ∃ q, (w27.alloc (.cells #[.string ⟨PR.toArray⟩, .int .i64 0, .slice A7 cR.length n7, .slice A8 tR.length n8] 41)).alloc (.cells #[.string ⟨SR.toArray⟩, .int .i64 1, .int .i64 1] 23) = q ∧ St w.heap.size w q _ ∧ CkV.ok q ⟨Vo, Vz, Vr, Vi, VA, VC, Va, VB, VT, Vb, VX, VL, Vc⟩ := ⟨_, rfl, y28, (ok27.below ((Below.refl _ w27).alloc (Nat.le_refl _) _)).below ((Below.refl _ _).alloc (Nat.le_refl _) _)⟩
    clear krot t27 y26 ok26 ok27 ur1 ur2 ur3 ur4
    have rc0 := y28.blk.cell 0
    have rc1 := y28.blk.cell 1
    have rc2 := y28.blk.cell 2
    have rc3 := y28.blk.cell 3
    go_wp2_with fail
    clear hw28 hpr
    have y29 := y28.alloc 41 #[.string ⟨PR.toArray⟩, .int .i64 0, .slice A7 cR.length n7, .slice A8 tR.length n8]
    have hRR : RowsR (w28.alloc (.cells #[.string ⟨PR.toArray⟩, .int .i64 0, .slice A7 cR.length n7, .slice A8 tR.length n8] 41)) (some ⟨w28.heap.size, 0, none⟩) [(⟨PR, 0, A7, cR, n7, A8, tR, n8⟩ : SgRow)] := ⟨rd_new w28 _ _, fun x hx => by (rw [List.mem_singleton.1 hx]; exact ⟨(Rd.of_own y29.tail.tail.own), (Rd.of_own y29.tail.tail.tail.own), UR.out.1, UR.out.2.1, UR.out.2.2.1, UR.out.2.2.2⟩)⟩
    refine (kfol _ _ _ _ _ _ _ hRR).mono ?_
    rintro e w30 ⟨rfl, b30⟩
    have ok30 := (ok28.below ((Below.refl _ w28).alloc (Nat.le_refl _) (.cells #[.string ⟨PR.toArray⟩, .int .i64 0, .slice A7 cR.length n7, .slice A8 tR.length n8] 41))).below b30
    have y30 := (y29.tail.under b30).tail.tail.tail
    clear kfol b30 y28 y29 ok28 hRR rc0 rc1 rc2 rc3
    have wc6 := y30.tail.tail.tail.tail.tail.tail.tail.tail.tail.tail.tail.blk.cell 6
    have xc0 := y30.tail.tail.tail.tail.tail.tail.tail.tail.tail.tail.tail.tail.blk.cell 0
    have a0 := y30.tail.blk.cell 0
    have a1 := y30.tail.blk.cell 1
    have a2 := y30.tail.blk.cell 2
    have a3 := y30.tail.blk.cell 3
    have a4 := y30.tail.blk.cell 4
    have a5 := y30.tail.blk.cell 5
    have a6 := y30.tail.blk.cell 6
    go_wp2_with fail
    have y31 := y30.alloc 9 #[.string ⟨PW.toArray⟩]
    refine (kcos _ _ _ _ _ _ _ _ _ _ _ _ _ (hRX _ _ _ (y31.tail.tail)) UC.out.1 UC.out.2 (rd_new w30 _ _)).mono ?_
    rintro e w31 ⟨rfl, b31⟩
    have ok31 := (ok30.below ((Below.refl _ w30).alloc (Nat.le_refl _) (.cells #[.string ⟨PW.toArray⟩] 9))).below b31
    have y32 := y31.tail.under b31
    clear kcos b31 y30 y31 ok30 wc6 xc0 a0 a1 a2 a3 a4 a5 a6
    have vv0 := y32.blk.cell 0
    have vv1 := y32.blk.cell 1
    have vv2 := y32.blk.cell 2
    have vv3 := y32.blk.cell 3
    have vv4 := y32.blk.cell 4
    have vv5 := y32.blk.cell 5
    have vv6 := y32.blk.cell 6
    have a0 := y32.tail.blk.cell 0
    have a1 := y32.tail.blk.cell 1
    have a2 := y32.tail.blk.cell 2
    have a3 := y32.tail.blk.cell 3
    have a4 := y32.tail.blk.cell 4
    have a5 := y32.tail.blk.cell 5
    have a6 := y32.tail.blk.cell 6
    have okA : CkV.ok w31 ⟨lg, 2, R2, 0, A1, cA, n1, A2, tA, n2, X, [⟨PW, 0, A5, cX, n5, A6, tX, n6⟩], cc⟩ := ⟨(Rd.of_own y32.tail.tail.tail.tail.tail.own), (Rd.of_own y32.tail.tail.tail.tail.tail.tail.own), UA.out.1, UA.out.2.1, UA.out.2.2.1, UA.out.2.2.2, hRX _ _ _ (y32.tail), UC.out.1, UC.out.2⟩
    have ks := ksame _ _ _ _ _ _ _ _ _ _ _ _ HV.out ok31 okA
    unfold ckA at ks
    dsimp only at ks
    clear ksame okA ok31 hRX
    go_wp2_with fail
    refine ks.mono ?_
    rintro e w33 ⟨rfl, b33⟩
    have y33 := y32.under b33
    clear ks b33 y32 vv0 vv1 vv2 vv3 vv4 vv5 vv6 a0 a1 a2 a3 a4 a5 a6
    have a0 := y33.tail.blk.cell 0
    have a1 := y33.tail.blk.cell 1
    have a2 := y33.tail.blk.cell 2
    have a3 := y33.tail.blk.cell 3
    have a4 := y33.tail.blk.cell 4
    have a5 := y33.tail.blk.cell 5
    have a6 := y33.tail.blk.cell 6
    have bb0 := y33.tail.tail.tail.tail.tail.tail.tail.blk.cell 0
    have bb1 := y33.tail.tail.tail.tail.tail.tail.tail.blk.cell 1
    have bb2 := y33.tail.tail.tail.tail.tail.tail.tail.blk.cell 2
    have bb3 := y33.tail.tail.tail.tail.tail.tail.tail.blk.cell 3
    have bb4 := y33.tail.tail.tail.tail.tail.tail.tail.blk.cell 4
    have bb5 := y33.tail.tail.tail.tail.tail.tail.tail.blk.cell 5
    have bb6 := y33.tail.tail.tail.tail.tail.tail.tail.blk.cell 6
    go_wp2_with fail
    refine (kchk _ _ _ _ _ _ _ _ _ _ _ (Rd.of_own y33.tail.tail.tail.tail.tail.own) (Rd.of_own y33.tail.tail.tail.tail.tail.tail.own) UA.out.1 UA.out.2.1 UA.out.2.2.1 UA.out.2.2.2 (Rd.of_own y33.tail.tail.tail.tail.tail.tail.tail.tail.own) (Rd.of_own y33.tail.tail.tail.tail.tail.tail.tail.tail.tail.own) UB.out.1 UB.out.2.1 UB.out.2.2.1 UB.out.2.2.2).mono ?_
    rintro e w34 ⟨rfl, b34⟩
    have Y34 := Lib.hid (y33.under b34)
    clear kchk b34 y33 a0 a1 a2 a3 a4 a5 a6 bb0 bb1 bb2 bb3 bb4 bb5 bb6
    go_wp2
    go_ret
    exact ⟨rfl, Y34.out.below⟩
end Go.Proofs.YtjjpdnpbhdcpbaaGreat
