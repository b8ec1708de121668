/-
  CheckpointForks: the walk, over the contracts of what it calls. Conditions: as the theorems state.
-/
import Derived.Test.YtjjpdnpbhdcpbaaGreatQPe
import Derived.Test.YtjjpdnpbhdcpbaaGreatFPa
import Derived.Test.YtjjpdnpbhdcpbaaGreatQCkX
namespace Go.Proofs.YtjjpdnpbhdcpbaaGreat
set_option linter.unusedVariables false
open Go.RowKit Go.Shelf
attribute [local go_sem] Oper.semAt_some
theorem region_via0 {P : Program} {c : Code} {Q : Exit → Act → World → Prop} {a : Act} {w : World} (S : World → Prop) {F : Act}
 (h : c.wp P (fun e a' w' => e = Exit.normal ∧ a' = F ∧ S w') a w) (k : ∀ w', S w' → Q Exit.normal F w') : c.wp P Q a w :=
 Code.wp_mono (fun e a w hr => by obtain ⟨rfl, rfl, hs⟩ := hr; exact k _ hs) h
set_option maxRecDepth 20000 in
set_option maxHeartbeats 8000000 in
theorem forks_gt (AD AE : Option Addr) (d0 e0 cD cE sz N m n : Nat) (L M : List Sg.Str) (w : World) (h1 : ¬ ((20 : Int) < (d0 : Int))) (h2 : ¬ ((20 : Int) < (e0 : Int))) (hN : L.length = N) (hm : M.length = m) (hN20 : N ≤ 20) (hm20 : m ≤ 20) (hmod : (sz : Int).tmod ((N : Int) + 1) = (n : Int)) (hmod2 : (sz : Int) % ((N : Int) + 1) = (n : Int)) (hnN : n ≤ N) (hsz : sz < 256)
 (ha : ∀ W, Calls Tryz.prog 11 #[] W (fun e w' => e = .returned (.bool true) ∧ Below W.heap.size W w'))
 (kF1 : ∀ W, Below w.heap.size w W → Calls Tryz.prog 34 #[.slice AD d0 cD] W (fun e w' => e = .returned (.bool true) ∧ W = w'))
 (kF2 : ∀ W, Below w.heap.size w W → Calls Tryz.prog 34 #[.slice AE e0 cE] W (fun e w' => e = .returned (.bool true) ∧ W = w'))
 (kl1 : ∀ W, Below w.heap.size w W → Calls Tryz.prog 43 #[.slice AD d0 cD] W (SlR L W))
 (kl2 : ∀ W, Below w.heap.size w W → Calls Tryz.prog 43 #[.slice AE e0 cE] W (SlR M W))
 (hgt : m < n) :
 Calls Tryz.prog 9 #[.slice AD d0 cD, .slice AE e0 cE, .int .u8 (sz : Int)] w fun e w' => e = .returned (.bool true) ∧ Below w.heap.size w w' := by
 go_enter Tryz.func9, Tryz.ntmps9
 go_wp2_with fail
 refine (ha _).mono ?_
 rintro e w1 ⟨rfl, b1⟩
 go_wp2_with fail
 refine (kF1 _ b1).mono ?_
 rintro e w' ⟨rfl, rfl⟩
 go_wp2_with fail
 refine (kF2 _ b1).mono ?_
 rintro e w' ⟨rfl, rfl⟩
 go_wp2_with fail
 refine (kl1 _ b1).mono ?_
 rintro e w2 ⟨P1, c1, rfl, hc1, hm1, t1⟩
 have y2 := ((St.nil w).under b1).join t1
 rw [hN] at hc1 y2 ⊢
 go_wp2_with fail
 refine (kl2 _ y2.below).mono ?_
 rintro e w3 ⟨P2, c2, rfl, hc2, hm2, t2⟩
 have y3 := y2.join t2
 rw [hm] at hc2 y3 ⊢
 replace y3 : St w.heap.size w w3 [ownR 9 1 (.slice P2 m c2) m (strs M), ownR 9 1 (.slice P1 N c1) N (strs L)] := y3
 clear t1 t2 y2 b1 kF1 kF2 kl1 kl2 ha
 have m0 : (0 : Int) ≤ (n : Int) := Int.natCast_nonneg _
 have m1 : (n : Int) ≤ (c1 : Int) := Int.ofNat_le.2 (Nat.le_trans hnN hc1)
 have hNz : ((N : Int) + 1 == 0) = false := beq_eq_false_iff_ne.2 (by omega)
 have hNz2 : ¬ (N : Int) + 1 = 0 := by omega
 have m2 : (m : Int) < (n : Int) := Int.ofNat_lt.2 hgt
 go_wp2_with fail
 have yd := y3.drew
 refine wp_region_noPanic ?_
 refine wp_region_held_drew (S := (fun _ => True)) (by kernel_rfl) ?_ (fun hH0 => ?_)
 ·(trivial)
 refine tk 0 50 hH0 ?_
 refine tk 1 51 hH0 ?_
 refine tk 2 52 hH0 ?_
 refine tk 3 53 hH0 ?_
 refine tk 4 54 hH0 ?_
 refine tu 5 55 hH0 ?_
 refine tu 6 56 hH0 ?_
 refine tu 7 57 hH0 ?_
 refine tu 8 58 hH0 ?_
 refine tu 9 59 hH0 ?_
 refine tu 10 60 hH0 ?_
 refine tu 11 61 hH0 ?_
 refine tu 12 62 hH0 ?_
 refine tu 13 63 hH0 ?_
 refine tk 14 64 hH0 ?_
 refine dn ?_ _
 all_goals (refine NoPanic.normal ?_)
 all_goals
  go_wp2
  go_ret
  exact ⟨rfl, yd.below⟩
set_option maxRecDepth 20000 in
set_option maxHeartbeats 8000000 in
theorem forks_eq (AD AE : Option Addr) (d0 e0 cD cE sz N m n : Nat) (L M : List Sg.Str) (w : World) (h1 : ¬ ((20 : Int) < (d0 : Int))) (h2 : ¬ ((20 : Int) < (e0 : Int))) (hN : L.length = N) (hm : M.length = m) (hN20 : N ≤ 20) (hm20 : m ≤ 20) (hmod : (sz : Int).tmod ((N : Int) + 1) = (n : Int)) (hmod2 : (sz : Int) % ((N : Int) + 1) = (n : Int)) (hnN : n ≤ N) (hsz : sz < 256)
 (ha : ∀ W, Calls Tryz.prog 11 #[] W (fun e w' => e = .returned (.bool true) ∧ Below W.heap.size W w'))
 (kF1 : ∀ W, Below w.heap.size w W → Calls Tryz.prog 34 #[.slice AD d0 cD] W (fun e w' => e = .returned (.bool true) ∧ W = w'))
 (kF2 : ∀ W, Below w.heap.size w W → Calls Tryz.prog 34 #[.slice AE e0 cE] W (fun e w' => e = .returned (.bool true) ∧ W = w'))
 (kl1 : ∀ W, Below w.heap.size w W → Calls Tryz.prog 43 #[.slice AD d0 cD] W (SlR L W))
 (kl2 : ∀ W, Below w.heap.size w W → Calls Tryz.prog 43 #[.slice AE e0 cE] W (SlR M W))
 (ra : Sg.Str)
 (kR1 : ∀ W c A, Rd W A (strs L) → N ≤ c → c ≤ maxLen → Calls Tryz.prog 46 #[.slice A n c] W (fun e w' => e = .returned (.string ⟨ra.toArray⟩) ∧ Below W.heap.size W w'))
 (kR2 : ∀ W c A, Rd W A (strs M) → m ≤ c → c ≤ maxLen → Calls Tryz.prog 46 #[.slice A n c] W (fun e w' => e = .returned (.string ⟨ra.toArray⟩) ∧ Below W.heap.size W w'))
 (hle : n ≤ m) :
 Calls Tryz.prog 9 #[.slice AD d0 cD, .slice AE e0 cE, .int .u8 (sz : Int)] w fun e w' => e = .returned (.bool true) ∧ Below w.heap.size w w' := by
 go_enter Tryz.func9, Tryz.ntmps9
 go_wp2_with fail
 refine (ha _).mono ?_
 rintro e w1 ⟨rfl, b1⟩
 go_wp2_with fail
 refine (kF1 _ b1).mono ?_
 rintro e w' ⟨rfl, rfl⟩
 go_wp2_with fail
 refine (kF2 _ b1).mono ?_
 rintro e w' ⟨rfl, rfl⟩
 go_wp2_with fail
 refine (kl1 _ b1).mono ?_
 rintro e w2 ⟨P1, c1, rfl, hc1, hm1, t1⟩
 have y2 := ((St.nil w).under b1).join t1
 rw [hN] at hc1 y2 ⊢
 go_wp2_with fail
 refine (kl2 _ y2.below).mono ?_
 rintro e w3 ⟨P2, c2, rfl, hc2, hm2, t2⟩
 have y3 := y2.join t2
 rw [hm] at hc2 y3 ⊢
 replace y3 : St w.heap.size w w3 [ownR 9 1 (.slice P2 m c2) m (strs M), ownR 9 1 (.slice P1 N c1) N (strs L)] := y3
 clear t1 t2 y2 b1 kF1 kF2 kl1 kl2 ha
 have m0 : (0 : Int) ≤ (n : Int) := Int.natCast_nonneg _
 have m1 : (n : Int) ≤ (c1 : Int) := Int.ofNat_le.2 (Nat.le_trans hnN hc1)
 have hNz : ((N : Int) + 1 == 0) = false := beq_eq_false_iff_ne.2 (by omega)
 have hNz2 : ¬ (N : Int) + 1 = 0 := by omega
 have m2 : ¬ ((m : Int) < (n : Int)) := fun h => absurd (Int.ofNat_lt.1 h) (Nat.not_lt.2 hle)
 have g2a : decide ((m : Int) < (n : Int)) = false := decide_eq_false m2
 have g2b : ¬ (m < n) := Nat.not_lt.2 hle
 have m3 : (n : Int) ≤ (c2 : Int) := Int.ofNat_le.2 (Nat.le_trans hle hc2)
 have e1 : (ra == ra) = true := beq_self_eq_true ra
 go_wp2_with fail
 have yd := y3.drew
 refine wp_region_noPanic ?_
 refine wp_region_held_drew (S := (fun _ => True)) (by kernel_rfl) ?_ (fun hH0 => ?_)
 ·(trivial)
 refine tk 0 50 hH0 ?_
 refine tk 1 51 hH0 ?_
 refine tk 2 52 hH0 ?_
 refine tk 3 53 hH0 ?_
 refine tk 4 54 hH0 ?_
 refine tk 5 55 hH0 ?_
 refine tk 6 56 hH0 ?_
 refine tk 7 57 hH0 ?_
 refine tk 9 59 hH0 ?_
 refine tk 10 60 hH0 ?_
 refine tk 11 61 hH0 ?_
 refine rdy [8] ?_
 refine an 58 fun K hK => ?_
 go_simp; (
  with_reducible refine (kR1 _ _ _ (Rd.of_own yd.tail.own) hc1 hm1).mono ?_
  rintro e v1 ⟨rfl, bv⟩
  have ye := yd.under bv
  clear bv); go_wp2_with fail
 refine hK.out _ _ ?_ (fun hH1 => ?_)
 ·(trivial)
 clear hK K hH0
 try simp only [pu]
 refine rdy [12] ?_
 refine an 62 fun K hK => ?_
 go_simp; (
  with_reducible refine (kR2 _ _ _ (Rd.of_own ye.own) hc2 hm2).mono ?_
  rintro e v2 ⟨rfl, bv⟩
  have yf := ye.under bv
  clear bv); go_wp2_with fail
 refine hK.out _ _ ?_ (fun hH2 => ?_)
 ·(trivial)
 clear hK K hH1
 try simp only [pu]
 refine tk 13 63 hH2 ?_
 refine tk 14 64 hH2 ?_
 refine dn ?_ _
 all_goals (refine NoPanic.normal ?_)
 all_goals
  go_wp2
  go_ret
  exact ⟨rfl, yf.below⟩
set_option maxRecDepth 20000 in
set_option maxHeartbeats 8000000 in
theorem forks_yes (AD AE : Option Addr) (d0 e0 cD cE sz N m n : Nat) (L M : List Sg.Str) (w : World) (h1 : ¬ ((20 : Int) < (d0 : Int))) (h2 : ¬ ((20 : Int) < (e0 : Int))) (hN : L.length = N) (hm : M.length = m) (hN20 : N ≤ 20) (hm20 : m ≤ 20) (hmod : (sz : Int).tmod ((N : Int) + 1) = (n : Int)) (hmod2 : (sz : Int) % ((N : Int) + 1) = (n : Int)) (hnN : n ≤ N) (hsz : sz < 256)
 (ha : ∀ W, Calls Tryz.prog 11 #[] W (fun e w' => e = .returned (.bool true) ∧ Below W.heap.size W w'))
 (kF1 : ∀ W, Below w.heap.size w W → Calls Tryz.prog 34 #[.slice AD d0 cD] W (fun e w' => e = .returned (.bool true) ∧ W = w'))
 (kF2 : ∀ W, Below w.heap.size w W → Calls Tryz.prog 34 #[.slice AE e0 cE] W (fun e w' => e = .returned (.bool true) ∧ W = w'))
 (kl1 : ∀ W, Below w.heap.size w W → Calls Tryz.prog 43 #[.slice AD d0 cD] W (SlR L W))
 (kl2 : ∀ W, Below w.heap.size w W → Calls Tryz.prog 43 #[.slice AE e0 cE] W (SlR M W))
 (SR PR ra rm rb : Sg.Str) (cA tA cB tB P : List Sg.Str)
 (kR1 : ∀ W c A, Rd W A (strs L) → N ≤ c → c ≤ maxLen → Calls Tryz.prog 46 #[.slice A n c] W (fun e w' => e = .returned (.string ⟨ra.toArray⟩) ∧ Below W.heap.size W w'))
 (kR2 : ∀ W c A, Rd W A (strs M) → m ≤ c → c ≤ maxLen → Calls Tryz.prog 46 #[.slice A n c] W (fun e w' => e = .returned (.string ⟨rm.toArray⟩) ∧ Below W.heap.size W w'))
 (kr : ∀ W, Calls Tryz.prog 48 #[.int .u8 114] W (fun e w' => e = .returned (.agg #[.string ⟨SR.toArray⟩, .int .i64 1, .int .i64 0]) ∧ Below W.heap.size W w'))
 (kpub : ∀ W, Calls Tryz.prog 44 #[.agg #[.string ⟨SR.toArray⟩, .int .i64 1, .int .i64 0]] W (fun e w' => e = .returned (.tuple #[.string ⟨PR.toArray⟩, .int .i64 0]) ∧ Below W.heap.size W w'))
 (kRM : ∀ W c A, Rd W A (strs M) → m ≤ c → c ≤ maxLen → Calls Tryz.prog 46 #[.slice A m c] W (fun e w' => e = .returned (.string ⟨rb.toArray⟩) ∧ Below W.heap.size W w'))
 (ks1 : ∀ W, Calls Tryz.prog 12 #[.agg #[.string ⟨SR.toArray⟩, .int .i64 1, .int .i64 0], .agg #[.string ⟨#[108, 111, 103]⟩, .int .i64 (n : Int), .string ⟨ra.toArray⟩]] W (fun e w' => ∃ a b, e = .returned (.tuple #[.agg #[.string ⟨#[108, 111, 103]⟩, .int .i64 (n : Int), .string ⟨ra.toArray⟩, .int .i64 0, a, b, .slice none 0 0], .agg #[.string ⟨SR.toArray⟩, .int .i64 1, .int .i64 1], .int .i64 0]) ∧ St W.heap.size W w' [ownR 9 1 a cA.length (strs cA), ownR 9 1 b tA.length (strs tA)]))
 (ks2 : ∀ W, Calls Tryz.prog 12 #[.agg #[.string ⟨SR.toArray⟩, .int .i64 1, .int .i64 1], .agg #[.string ⟨#[108, 111, 103]⟩, .int .i64 (m : Int), .string ⟨rb.toArray⟩]] W (fun e w' => ∃ a b, e = .returned (.tuple #[.agg #[.string ⟨#[108, 111, 103]⟩, .int .i64 (m : Int), .string ⟨rb.toArray⟩, .int .i64 1, a, b, .slice none 0 0], .agg #[.string ⟨SR.toArray⟩, .int .i64 1, .int .i64 2], .int .i64 0]) ∧ St W.heap.size W w' [ownR 9 1 a cB.length (strs cB), ownR 9 1 b tB.length (strs tB)]))
 (kcmp : ∀ W A1 A2 n1 n2 A3 A4 n3 n4 c Y, Rd W Y (strs M) → m ≤ c → c ≤ maxLen → Calls Tryz.prog 38 #[.agg #[.string ⟨#[108, 111, 103]⟩, .int .i64 (n : Int), .string ⟨ra.toArray⟩, .int .i64 0, .slice A1 cA.length n1, .slice A2 tA.length n2, .slice none 0 0], .agg #[.string ⟨#[108, 111, 103]⟩, .int .i64 (m : Int), .string ⟨rb.toArray⟩, .int .i64 1, .slice A3 cB.length n3, .slice A4 tB.length n4, .slice none 0 0], .slice Y m c] W (fun e w' => ∃ pv, e = .returned (.tuple #[.agg #[.string ⟨#[108, 111, 103]⟩, .int .i64 (n : Int), .string ⟨ra.toArray⟩, .int .i64 0, .slice A1 cA.length n1, .slice A2 tA.length n2, .slice none 0 0, .string ⟨#[108, 111, 103]⟩, .int .i64 (m : Int), .string ⟨rb.toArray⟩, .int .i64 1, .slice A3 cB.length n3, .slice A4 tB.length n4, .slice none 0 0, .string ⟨rm.toArray⟩, pv], .bool true]) ∧ St W.heap.size W w' [ownR 9 1 pv P.length (strs P)]))
 (kchk : ∀ W A1 A2 n1 n2 A3 A4 n3 n4 Y d, Rd W A1 (strs cA) → Rd W A2 (strs tA) → cA.length ≤ n1 → n1 ≤ maxLen → tA.length ≤ n2 → n2 ≤ maxLen → Rd W A3 (strs cB) → Rd W A4 (strs tB) → cB.length ≤ n3 → n3 ≤ maxLen → tB.length ≤ n4 → n4 ≤ maxLen → Rd W Y (strs P) → P.length ≤ d → d ≤ maxLen → Calls Tryz.prog 40 #[.string ⟨PR.toArray⟩, .agg #[.string ⟨#[108, 111, 103]⟩, .int .i64 (n : Int), .string ⟨ra.toArray⟩, .int .i64 0, .slice A1 cA.length n1, .slice A2 tA.length n2, .slice none 0 0, .string ⟨#[108, 111, 103]⟩, .int .i64 (m : Int), .string ⟨rb.toArray⟩, .int .i64 1, .slice A3 cB.length n3, .slice A4 tB.length n4, .slice none 0 0, .string ⟨rm.toArray⟩, .slice Y P.length d]] W (fun e w' => e = .returned (.bool true) ∧ Below W.heap.size W w'))
 (hle : n ≤ m) (hne : (ra == rm) = false) :
 Calls Tryz.prog 9 #[.slice AD d0 cD, .slice AE e0 cE, .int .u8 (sz : Int)] w fun e w' => e = .returned (.bool true) ∧ Below w.heap.size w w' := by
 go_enter Tryz.func9, Tryz.ntmps9
 go_wp2_with fail
 refine (ha _).mono ?_
 rintro e w1 ⟨rfl, b1⟩
 go_wp2_with fail
 refine (kF1 _ b1).mono ?_
 rintro e w' ⟨rfl, rfl⟩
 go_wp2_with fail
 refine (kF2 _ b1).mono ?_
 rintro e w' ⟨rfl, rfl⟩
 go_wp2_with fail
 refine (kl1 _ b1).mono ?_
 rintro e w2 ⟨P1, c1, rfl, hc1, hm1, t1⟩
 have y2 := ((St.nil w).under b1).join t1
 rw [hN] at hc1 y2 ⊢
 go_wp2_with fail
 refine (kl2 _ y2.below).mono ?_
 rintro e w3 ⟨P2, c2, rfl, hc2, hm2, t2⟩
 have y3 := y2.join t2
 rw [hm] at hc2 y3 ⊢
 replace y3 : St w.heap.size w w3 [ownR 9 1 (.slice P2 m c2) m (strs M), ownR 9 1 (.slice P1 N c1) N (strs L)] := y3
 clear t1 t2 y2 b1 kF1 kF2 kl1 kl2 ha
 have m0 : (0 : Int) ≤ (n : Int) := Int.natCast_nonneg _
 have m1 : (n : Int) ≤ (c1 : Int) := Int.ofNat_le.2 (Nat.le_trans hnN hc1)
 have hNz : ((N : Int) + 1 == 0) = false := beq_eq_false_iff_ne.2 (by omega)
 have hNz2 : ¬ (N : Int) + 1 = 0 := by omega
 have m2 : ¬ ((m : Int) < (n : Int)) := fun h => absurd (Int.ofNat_lt.1 h) (Nat.not_lt.2 hle)
 have g2a : decide ((m : Int) < (n : Int)) = false := decide_eq_false m2
 have g2b : ¬ (m < n) := Nat.not_lt.2 hle
 have m3 : (n : Int) ≤ (c2 : Int) := Int.ofNat_le.2 (Nat.le_trans hle hc2)
 go_wp2_with fail
 apply region_via0 (fun w' => St w.heap.size w w' [ownR 9 1 (.slice P2 m c2) m (strs M), ownR 9 1 (.slice P1 N c1) N (strs L)])
 case h =>
  have yd := y3.drew
  refine wp_region_noPanic ?_
  refine wp_region_held_drew (S := (fun _ => True)) (by kernel_rfl) ?_ (fun hH0 => ?_)
  ·(trivial)
  refine tk 0 50 hH0 ?_
  refine tk 1 51 hH0 ?_
  refine tk 2 52 hH0 ?_
  refine tk 3 53 hH0 ?_
  refine tk 4 54 hH0 ?_
  refine tk 5 55 hH0 ?_
  refine tk 6 56 hH0 ?_
  refine tk 7 57 hH0 ?_
  refine tk 9 59 hH0 ?_
  refine tk 10 60 hH0 ?_
  refine tk 11 61 hH0 ?_
  refine rdy [8] ?_
  refine an 58 fun K hK => ?_
  go_simp; (
   with_reducible refine (kR1 _ _ _ (Rd.of_own yd.tail.own) hc1 hm1).mono ?_
   rintro e v1 ⟨rfl, bv⟩
   have ye := yd.under bv
   clear bv); go_wp2_with fail
  refine hK.out _ _ ?_ (fun hH1 => ?_)
  ·(trivial)
  clear hK K hH0
  try simp only [pu]
  refine rdy [12] ?_
  refine an 62 fun K hK => ?_
  go_simp; (
   with_reducible refine (kR2 _ _ _ (Rd.of_own ye.own) hc2 hm2).mono ?_
   rintro e v2 ⟨rfl, bv⟩
   have yf := ye.under bv
   clear bv); go_wp2_with fail
  refine hK.out _ _ ?_ (fun hH2 => ?_)
  ·(trivial)
  clear hK K hH1
  try simp only [pu]
  refine tk 13 63 hH2 ?_
  refine tk 14 64 hH2 ?_
  refine dn ?_ _
  all_goals (refine NoPanic.normal ?_)
  all_goals exact ⟨rfl, rfl, yf⟩
 case k =>
  rintro w4 y4
  clear y3
  go_wp2_with fail
  refine (kr _).mono ?_
  rintro e w5 ⟨rfl, b5⟩
  have y5 := y4.under b5
  go_wp2_with fail
  refine (kpub _).mono ?_
  rintro e w6 ⟨rfl, b6⟩
  have y6 := y5.under b6
  clear b5 b6 y4 y5 kpub kR2 m0 m2 m3 g2a g2b hmod hmod2 hNz hNz2 h1 h2 hN20 hm20
  go_wp2_with fail
  apply region_via6 (fun (pa ka : Nat) (A1 A2 : Option Addr) (n1 n2 : Nat) w' => St w.heap.size w w' [cellsR (pa) 32 #[.string ⟨#[108, 111, 103]⟩, .int .i64 (n : Int), .string ⟨ra.toArray⟩, .int .i64 0, .slice A1 cA.length n1, .slice A2 tA.length n2, .slice none 0 0], cellsR (ka) 23 #[.string ⟨SR.toArray⟩, .int .i64 1, .int .i64 1], ownR 9 1 (.slice A1 cA.length n1) cA.length (strs cA), ownR 9 1 (.slice A2 tA.length n2) tA.length (strs tA), ownR 9 1 (.slice P2 m c2) m (strs M), ownR 9 1 (.slice P1 N c1) N (strs L)])
  case h =>
   have m0 : (0 : Int) ≤ (n : Int) := Int.natCast_nonneg _
   refine wp_region_noPanic ?_
   refine wp_region_held_drew (S := (fun W' => True)) (by kernel_rfl) ?_ (fun hH0 => ?_)
   ·trivial
   refine tk 1 72 hH0 ?_
   refine tk 2 73 hH0 ?_
   refine tk 3 74 hH0 ?_
   refine tk 4 75 hH0 ?_
   refine rdy [0, 12, 13] ?_
   refine ad 71 (fun K hK => ?_) ?_
   go_simp; (
    (with_reducible refine (kr _).mono ?_)
    rintro e wK ⟨rfl, bK⟩
    have yK := y6.drew.under bK); go_wp2_with fail
   refine hK.out _ _ trivial fun hH1 => ?_
   clear hK K hH0
   try simp only [pu]
   refine rdy [5, 12, 13] ?_
   refine ad 76 (fun K hK => ?_) ?_
   go_simp; (
    (with_reducible refine (kR1 _ _ _ (Rd.of_own (yK.tail.own)) hc1 hm1).mono ?_)
    rintro e wKR ⟨rfl, bR⟩
    have yKR := yK.under bR); go_wp2_with fail
   refine hK.out _ _ trivial fun hH2 => ?_
   clear hK K hH1
   try simp only [pu]
   refine tk 6 77 hH2 ?_
   refine rdy [7, 12, 13] ?_
   refine ad 78 (fun K hK => ?_) ?_
   go_simp; (
    (with_reducible refine (ks1 _).mono ?_)
    rintro e wKRS ⟨ua, ub, rfl, t2⟩
    obtain ⟨A1, n1, rfl, _, _⟩ := own_form t2.own
    obtain ⟨A2, n2, rfl, _, _⟩ := own_form t2.tail.own
    have yKRS := yKR.join t2); go_wp2_with fail
   refine hK.out _ _ trivial fun hH3 => ?_
   clear hK K hH2
   try simp only [pu]
   refine tk 8 70 hH3 ?_
   refine tk 9 79 hH3 ?_
   refine tk 10 80 hH3 ?_
   refine tk 11 81 hH3 ?_
   refine rdy [12, 13] ?_
   refine ad 12 (fun K hK => ?_) ?_
   go_simp
   refine hK.out _ _ trivial fun hH4 => ?_
   clear hK K hH3
   try simp only [pu]
   refine rdy [13] ?_
   refine an 13 fun K hK => ?_
   go_simp
   refine hK.out _ _ trivial fun hH5 => ?_
   clear hK K hH4
   try simp only [pu]
   refine rdy [14] ?_
   refine az fun K hK => ?_
   go_simp
   refine hK.out _ _ trivial fun hH6 => ?_
   clear hK K hH5
   try simp only [pu]
   refine rdy [15] ?_
   refine az fun K hK => ?_
   go_simp
   refine hK.out _ _ trivial fun hH7 => ?_
   clear hK K hH6
   try simp only [pu]
   refine tk 16 14 hH7 ?_
   refine dn ?_ _
   rotate_left 1
   refine an 13 fun K hK => ?_
   go_simp
   refine hK.out _ _ trivial fun hH8 => ?_
   clear hK K hH3
   try simp only [pu]
   refine rdy [12] ?_
   refine an 12 fun K hK => ?_
   go_simp
   refine hK.out _ _ trivial fun hH9 => ?_
   clear hK K hH8
   try simp only [pu]
   refine rdy [14] ?_
   refine az fun K hK => ?_
   go_simp
   refine hK.out _ _ trivial fun hH10 => ?_
   clear hK K hH9
   try simp only [pu]
   refine rdy [15] ?_
   refine az fun K hK => ?_
   go_simp
   refine hK.out _ _ trivial fun hH11 => ?_
   clear hK K hH10
   try simp only [pu]
   refine tk 16 14 hH11 ?_
   refine dn ?_ _
   rotate_left 1
   refine ad 12 (fun K hK => ?_) ?_
   go_simp
   refine hK.out _ _ trivial fun hH12 => ?_
   clear hK K hH2
   try simp only [pu]
   refine rdy [7, 13] ?_
   refine ad 78 (fun K hK => ?_) ?_
   go_simp; (
    (with_reducible refine (ks1 _).mono ?_)
    rintro e wKRGS ⟨ua, ub, rfl, t2⟩
    obtain ⟨A1, n1, rfl, _, _⟩ := own_form t2.own
    obtain ⟨A2, n2, rfl, _, _⟩ := own_form t2.tail.own
    have yKRGS := (yKR.alloc 32 #[.string ⟨#[]⟩, .int .i64 0, .string ⟨#[]⟩, .int .i64 0, .slice none 0 0, .slice none 0 0, .slice none 0 0]).join t2
    have ltG := (yKRGS.tail.tail).blk.lt
    have neG : ¬ (wKRGS.heap.size = wKR.heap.size) := Nat.ne_of_gt ltG
    obtain ⟨_, _, _, _, _, _, _, _, _, _, _, _, _, _⟩ := bk7 yKRGS.tail.tail.blk); go_wp2_with fail
   refine hK.out _ _ trivial fun hH13 => ?_
   clear hK K hH12
   try simp only [pu]
   refine tk 8 70 hH13 ?_
   refine tk 9 79 hH13 ?_
   refine tk 10 80 hH13 ?_
   refine tk 11 81 hH13 ?_
   refine rdy [13] ?_
   refine an 13 fun K hK => ?_
   go_simp
   refine hK.out _ _ trivial fun hH14 => ?_
   clear hK K hH13
   try simp only [pu]
   refine rdy [14] ?_
   refine az fun K hK => ?_
   go_simp
   refine hK.out _ _ trivial fun hH15 => ?_
   clear hK K hH14
   try simp only [pu]
   refine rdy [15] ?_
   refine az fun K hK => ?_
   go_simp
   refine hK.out _ _ trivial fun hH16 => ?_
   clear hK K hH15
   try simp only [pu]
   refine tk 16 14 hH16 ?_
   refine dn ?_ _
   rotate_left 1
   refine an 13 fun K hK => ?_
   go_simp
   refine hK.out _ _ trivial fun hH17 => ?_
   clear hK K hH12
   try simp only [pu]
   refine rdy [7] ?_
   refine an 78 fun K hK => ?_
   go_simp; (
    (with_reducible refine (ks1 _).mono ?_)
    rintro e wKRGJS ⟨ua, ub, rfl, t2⟩
    obtain ⟨A1, n1, rfl, _, _⟩ := own_form t2.own
    obtain ⟨A2, n2, rfl, _, _⟩ := own_form t2.tail.own
    have yKRGJS := ((yKR.alloc 32 #[.string ⟨#[]⟩, .int .i64 0, .string ⟨#[]⟩, .int .i64 0, .slice none 0 0, .slice none 0 0, .slice none 0 0]).alloc 23 #[.string ⟨#[]⟩, .int .i64 0, .int .i64 0]).join t2
    try simp only [World.size_alloc] at yKRGJS
    have ltG := (yKRGJS.tail.tail.tail).blk.lt
    have neG : ¬ (wKRGJS.heap.size = wKR.heap.size) := Nat.ne_of_gt ltG
    have ltJ := (yKRGJS.tail.tail).blk.lt
    have neJ : ¬ (wKRGJS.heap.size = wKR.heap.size + 1) := Nat.ne_of_gt ltJ
    have ltGJ : wKR.heap.size < wKR.heap.size + 1 := by first | exact ((yKR.alloc 32 #[.string ⟨#[]⟩, .int .i64 0, .string ⟨#[]⟩, .int .i64 0, .slice none 0 0, .slice none 0 0, .slice none 0 0])).blk.lt | (have := ((yKR.alloc 32 #[.string ⟨#[]⟩, .int .i64 0, .string ⟨#[]⟩, .int .i64 0, .slice none 0 0, .slice none 0 0, .slice none 0 0])).blk.lt; simp only [World.size_alloc] at this; exact this) | (have := ((yKR.alloc 32 #[.string ⟨#[]⟩, .int .i64 0, .string ⟨#[]⟩, .int .i64 0, .slice none 0 0, .slice none 0 0, .slice none 0 0])).blk.lt; simp only [World.size_drew, World.size_alloc] at this; exact this)
    have neGJ : ¬ (wKR.heap.size = wKR.heap.size + 1) := Nat.ne_of_lt ltGJ
    have neJG : ¬ (wKR.heap.size + 1 = wKR.heap.size) := Nat.ne_of_gt ltGJ
    obtain ⟨_, _, _, _, _, _, _, _, _, _, _, _, _, _⟩ := bk7 yKRGJS.tail.tail.tail.blk
    obtain ⟨_, _, _, _, _, _⟩ := bk3 yKRGJS.tail.tail.blk); go_wp2_with fail
   refine hK.out _ _ trivial fun hH18 => ?_
   clear hK K hH17
   try simp only [pu]
   refine tk 8 70 hH18 ?_
   refine tk 9 79 hH18 ?_
   refine tk 10 80 hH18 ?_
   refine tk 11 81 hH18 ?_
   refine rdy [14] ?_
   refine az fun K hK => ?_
   go_simp
   refine hK.out _ _ trivial fun hH19 => ?_
   clear hK K hH18
   try simp only [pu]
   refine rdy [15] ?_
   refine az fun K hK => ?_
   go_simp
   refine hK.out _ _ trivial fun hH20 => ?_
   clear hK K hH19
   try simp only [pu]
   refine tk 16 14 hH20 ?_
   refine dn ?_ _
   rotate_left 1
   refine an 13 fun K hK => ?_
   go_simp
   refine hK.out _ _ trivial fun hH21 => ?_
   clear hK K hH2
   try simp only [pu]
   refine rdy [7, 12] ?_
   refine ad 78 (fun K hK => ?_) ?_
   go_simp; (
    (with_reducible refine (ks1 _).mono ?_)
    rintro e wKRJS ⟨ua, ub, rfl, t2⟩
    obtain ⟨A1, n1, rfl, _, _⟩ := own_form t2.own
    obtain ⟨A2, n2, rfl, _, _⟩ := own_form t2.tail.own
    have yKRJS := (yKR.alloc 23 #[.string ⟨#[]⟩, .int .i64 0, .int .i64 0]).join t2
    have ltJ := (yKRJS.tail.tail).blk.lt
    have neJ : ¬ (wKRJS.heap.size = wKR.heap.size) := Nat.ne_of_gt ltJ
    obtain ⟨_, _, _, _, _, _⟩ := bk3 yKRJS.tail.tail.blk); go_wp2_with fail
   refine hK.out _ _ trivial fun hH22 => ?_
   clear hK K hH21
   try simp only [pu]
   refine tk 8 70 hH22 ?_
   refine tk 9 79 hH22 ?_
   refine tk 10 80 hH22 ?_
   refine tk 11 81 hH22 ?_
   refine rdy [12] ?_
   refine an 12 fun K hK => ?_
   go_simp
   refine hK.out _ _ trivial fun hH23 => ?_
   clear hK K hH22
   try simp only [pu]
   refine rdy [14] ?_
   refine az fun K hK => ?_
   go_simp
   refine hK.out _ _ trivial fun hH24 => ?_
   clear hK K hH23
   try simp only [pu]
   refine rdy [15] ?_
   refine az fun K hK => ?_
   go_simp
   refine hK.out _ _ trivial fun hH25 => ?_
   clear hK K hH24
   try simp only [pu]
   refine tk 16 14 hH25 ?_
   refine dn ?_ _
   rotate_left 1
   refine an 12 fun K hK => ?_
   go_simp
   refine hK.out _ _ trivial fun hH26 => ?_
   clear hK K hH21
   try simp only [pu]
   refine rdy [7] ?_
   refine an 78 fun K hK => ?_
   go_simp; (
    (with_reducible refine (ks1 _).mono ?_)
    rintro e wKRJGS ⟨ua, ub, rfl, t2⟩
    obtain ⟨A1, n1, rfl, _, _⟩ := own_form t2.own
    obtain ⟨A2, n2, rfl, _, _⟩ := own_form t2.tail.own
    have yKRJGS := ((yKR.alloc 23 #[.string ⟨#[]⟩, .int .i64 0, .int .i64 0]).alloc 32 #[.string ⟨#[]⟩, .int .i64 0, .string ⟨#[]⟩, .int .i64 0, .slice none 0 0, .slice none 0 0, .slice none 0 0]).join t2
    try simp only [World.size_alloc] at yKRJGS
    have ltG := (yKRJGS.tail.tail).blk.lt
    have neG : ¬ (wKRJGS.heap.size = wKR.heap.size + 1) := Nat.ne_of_gt ltG
    have ltJ := (yKRJGS.tail.tail.tail).blk.lt
    have neJ : ¬ (wKRJGS.heap.size = wKR.heap.size) := Nat.ne_of_gt ltJ
    have ltJG : wKR.heap.size < wKR.heap.size + 1 := by first | exact ((yKR.alloc 23 #[.string ⟨#[]⟩, .int .i64 0, .int .i64 0])).blk.lt | (have := ((yKR.alloc 23 #[.string ⟨#[]⟩, .int .i64 0, .int .i64 0])).blk.lt; simp only [World.size_alloc] at this; exact this) | (have := ((yKR.alloc 23 #[.string ⟨#[]⟩, .int .i64 0, .int .i64 0])).blk.lt; simp only [World.size_drew, World.size_alloc] at this; exact this)
    have neJG : ¬ (wKR.heap.size = wKR.heap.size + 1) := Nat.ne_of_lt ltJG
    have neGJ : ¬ (wKR.heap.size + 1 = wKR.heap.size) := Nat.ne_of_gt ltJG
    obtain ⟨_, _, _, _, _, _, _, _, _, _, _, _, _, _⟩ := bk7 yKRJGS.tail.tail.blk
    obtain ⟨_, _, _, _, _, _⟩ := bk3 yKRJGS.tail.tail.tail.blk); go_wp2_with fail
   refine hK.out _ _ trivial fun hH27 => ?_
   clear hK K hH26
   try simp only [pu]
   refine tk 8 70 hH27 ?_
   refine tk 9 79 hH27 ?_
   refine tk 10 80 hH27 ?_
   refine tk 11 81 hH27 ?_
   refine rdy [14] ?_
   refine az fun K hK => ?_
   go_simp
   refine hK.out _ _ trivial fun hH28 => ?_
   clear hK K hH27
   try simp only [pu]
   refine rdy [15] ?_
   refine az fun K hK => ?_
   go_simp
   refine hK.out _ _ trivial fun hH29 => ?_
   clear hK K hH28
   try simp only [pu]
   refine tk 16 14 hH29 ?_
   refine dn ?_ _
   rotate_left 1
   refine ad 12 (fun K hK => ?_) ?_
   go_simp
   refine hK.out _ _ trivial fun hH30 => ?_
   clear hK K hH1
   try simp only [pu]
   refine rdy [5, 13] ?_
   refine ad 76 (fun K hK => ?_) ?_
   go_simp; (
    (with_reducible refine (kR1 _ _ _ (Rd.of_own ((yK.alloc 32 #[.string ⟨#[]⟩, .int .i64 0, .string ⟨#[]⟩, .int .i64 0, .slice none 0 0, .slice none 0 0, .slice none 0 0]).tail.tail.own)) hc1 hm1).mono ?_)
    rintro e wKGR ⟨rfl, bR⟩
    have yKGR := (yK.alloc 32 #[.string ⟨#[]⟩, .int .i64 0, .string ⟨#[]⟩, .int .i64 0, .slice none 0 0, .slice none 0 0, .slice none 0 0]).under bR); go_wp2_with fail
   refine hK.out _ _ trivial fun hH31 => ?_
   clear hK K hH30
   try simp only [pu]
   refine tk 6 77 hH31 ?_
   refine rdy [7, 13] ?_
   refine ad 78 (fun K hK => ?_) ?_
   go_simp; (
    (with_reducible refine (ks1 _).mono ?_)
    rintro e wKGRS ⟨ua, ub, rfl, t2⟩
    obtain ⟨A1, n1, rfl, _, _⟩ := own_form t2.own
    obtain ⟨A2, n2, rfl, _, _⟩ := own_form t2.tail.own
    have yKGRS := yKGR.join t2
    have ltG := (yKGRS.tail.tail).blk.lt
    have neG : ¬ (wKGRS.heap.size = wK.heap.size) := Nat.ne_of_gt ltG
    obtain ⟨_, _, _, _, _, _, _, _, _, _, _, _, _, _⟩ := bk7 yKGRS.tail.tail.blk); go_wp2_with fail
   refine hK.out _ _ trivial fun hH32 => ?_
   clear hK K hH31
   try simp only [pu]
   refine tk 8 70 hH32 ?_
   refine tk 9 79 hH32 ?_
   refine tk 10 80 hH32 ?_
   refine tk 11 81 hH32 ?_
   refine rdy [13] ?_
   refine an 13 fun K hK => ?_
   go_simp
   refine hK.out _ _ trivial fun hH33 => ?_
   clear hK K hH32
   try simp only [pu]
   refine rdy [14] ?_
   refine az fun K hK => ?_
   go_simp
   refine hK.out _ _ trivial fun hH34 => ?_
   clear hK K hH33
   try simp only [pu]
   refine rdy [15] ?_
   refine az fun K hK => ?_
   go_simp
   refine hK.out _ _ trivial fun hH35 => ?_
   clear hK K hH34
   try simp only [pu]
   refine tk 16 14 hH35 ?_
   refine dn ?_ _
   rotate_left 1
   refine an 13 fun K hK => ?_
   go_simp
   refine hK.out _ _ trivial fun hH36 => ?_
   clear hK K hH31
   try simp only [pu]
   refine rdy [7] ?_
   refine an 78 fun K hK => ?_
   go_simp; (
    (with_reducible refine (ks1 _).mono ?_)
    rintro e wKGRJS ⟨ua, ub, rfl, t2⟩
    obtain ⟨A1, n1, rfl, _, _⟩ := own_form t2.own
    obtain ⟨A2, n2, rfl, _, _⟩ := own_form t2.tail.own
    have yKGRJS := (yKGR.alloc 23 #[.string ⟨#[]⟩, .int .i64 0, .int .i64 0]).join t2
    try simp only [World.size_alloc] at yKGRJS
    have ltG := (yKGRJS.tail.tail.tail).blk.lt
    have neG : ¬ (wKGRJS.heap.size = wK.heap.size) := Nat.ne_of_gt ltG
    have ltJ := (yKGRJS.tail.tail).blk.lt
    have neJ : ¬ (wKGRJS.heap.size = wKGR.heap.size) := Nat.ne_of_gt ltJ
    have ltGJ : wK.heap.size < wKGR.heap.size := by first | exact (yKGR).blk.lt | (have := (yKGR).blk.lt; simp only [World.size_alloc] at this; exact this) | (have := (yKGR).blk.lt; simp only [World.size_drew, World.size_alloc] at this; exact this)
    have neGJ : ¬ (wK.heap.size = wKGR.heap.size) := Nat.ne_of_lt ltGJ
    have neJG : ¬ (wKGR.heap.size = wK.heap.size) := Nat.ne_of_gt ltGJ
    obtain ⟨_, _, _, _, _, _, _, _, _, _, _, _, _, _⟩ := bk7 yKGRJS.tail.tail.tail.blk
    obtain ⟨_, _, _, _, _, _⟩ := bk3 yKGRJS.tail.tail.blk); go_wp2_with fail
   refine hK.out _ _ trivial fun hH37 => ?_
   clear hK K hH36
   try simp only [pu]
   refine tk 8 70 hH37 ?_
   refine tk 9 79 hH37 ?_
   refine tk 10 80 hH37 ?_
   refine tk 11 81 hH37 ?_
   refine rdy [14] ?_
   refine az fun K hK => ?_
   go_simp
   refine hK.out _ _ trivial fun hH38 => ?_
   clear hK K hH37
   try simp only [pu]
   refine rdy [15] ?_
   refine az fun K hK => ?_
   go_simp
   refine hK.out _ _ trivial fun hH39 => ?_
   clear hK K hH38
   try simp only [pu]
   refine tk 16 14 hH39 ?_
   refine dn ?_ _
   rotate_left 1
   refine an 13 fun K hK => ?_
   go_simp
   refine hK.out _ _ trivial fun hH40 => ?_
   clear hK K hH30
   try simp only [pu]
   refine rdy [5] ?_
   refine an 76 fun K hK => ?_
   go_simp; (
    (with_reducible refine (kR1 _ _ _ (Rd.of_own (((yK.alloc 32 #[.string ⟨#[]⟩, .int .i64 0, .string ⟨#[]⟩, .int .i64 0, .slice none 0 0, .slice none 0 0, .slice none 0 0]).alloc 23 #[.string ⟨#[]⟩, .int .i64 0, .int .i64 0]).tail.tail.tail.own)) hc1 hm1).mono ?_)
    rintro e wKGJR ⟨rfl, bR⟩
    have yKGJR := ((yK.alloc 32 #[.string ⟨#[]⟩, .int .i64 0, .string ⟨#[]⟩, .int .i64 0, .slice none 0 0, .slice none 0 0, .slice none 0 0]).alloc 23 #[.string ⟨#[]⟩, .int .i64 0, .int .i64 0]).under bR
    try simp only [World.size_alloc] at yKGJR); go_wp2_with fail
   refine hK.out _ _ trivial fun hH41 => ?_
   clear hK K hH40
   try simp only [pu]
   refine tk 6 77 hH41 ?_
   refine rdy [7] ?_
   refine an 78 fun K hK => ?_
   go_simp; (
    (with_reducible refine (ks1 _).mono ?_)
    rintro e wKGJRS ⟨ua, ub, rfl, t2⟩
    obtain ⟨A1, n1, rfl, _, _⟩ := own_form t2.own
    obtain ⟨A2, n2, rfl, _, _⟩ := own_form t2.tail.own
    have yKGJRS := yKGJR.join t2
    try simp only [World.size_alloc] at yKGJRS
    have ltG := (yKGJRS.tail.tail.tail).blk.lt
    have neG : ¬ (wKGJRS.heap.size = wK.heap.size) := Nat.ne_of_gt ltG
    have ltJ := (yKGJRS.tail.tail).blk.lt
    have neJ : ¬ (wKGJRS.heap.size = wK.heap.size + 1) := Nat.ne_of_gt ltJ
    have ltGJ : wK.heap.size < wK.heap.size + 1 := by first | exact ((yK.alloc 32 #[.string ⟨#[]⟩, .int .i64 0, .string ⟨#[]⟩, .int .i64 0, .slice none 0 0, .slice none 0 0, .slice none 0 0])).blk.lt | (have := ((yK.alloc 32 #[.string ⟨#[]⟩, .int .i64 0, .string ⟨#[]⟩, .int .i64 0, .slice none 0 0, .slice none 0 0, .slice none 0 0])).blk.lt; simp only [World.size_alloc] at this; exact this) | (have := ((yK.alloc 32 #[.string ⟨#[]⟩, .int .i64 0, .string ⟨#[]⟩, .int .i64 0, .slice none 0 0, .slice none 0 0, .slice none 0 0])).blk.lt; simp only [World.size_drew, World.size_alloc] at this; exact this)
    have neGJ : ¬ (wK.heap.size = wK.heap.size + 1) := Nat.ne_of_lt ltGJ
    have neJG : ¬ (wK.heap.size + 1 = wK.heap.size) := Nat.ne_of_gt ltGJ
    obtain ⟨_, _, _, _, _, _, _, _, _, _, _, _, _, _⟩ := bk7 yKGJRS.tail.tail.tail.blk
    obtain ⟨_, _, _, _, _, _⟩ := bk3 yKGJRS.tail.tail.blk); go_wp2_with fail
   refine hK.out _ _ trivial fun hH42 => ?_
   clear hK K hH41
   try simp only [pu]
   refine tk 8 70 hH42 ?_
   refine tk 9 79 hH42 ?_
   refine tk 10 80 hH42 ?_
   refine tk 11 81 hH42 ?_
   refine rdy [14] ?_
   refine az fun K hK => ?_
   go_simp
   refine hK.out _ _ trivial fun hH43 => ?_
   clear hK K hH42
   try simp only [pu]
   refine rdy [15] ?_
   refine az fun K hK => ?_
   go_simp
   refine hK.out _ _ trivial fun hH44 => ?_
   clear hK K hH43
   try simp only [pu]
   refine tk 16 14 hH44 ?_
   refine dn ?_ _
   rotate_left 1
   refine an 13 fun K hK => ?_
   go_simp
   refine hK.out _ _ trivial fun hH45 => ?_
   clear hK K hH1
   try simp only [pu]
   refine rdy [5, 12] ?_
   refine ad 76 (fun K hK => ?_) ?_
   go_simp; (
    (with_reducible refine (kR1 _ _ _ (Rd.of_own ((yK.alloc 23 #[.string ⟨#[]⟩, .int .i64 0, .int .i64 0]).tail.tail.own)) hc1 hm1).mono ?_)
    rintro e wKJR ⟨rfl, bR⟩
    have yKJR := (yK.alloc 23 #[.string ⟨#[]⟩, .int .i64 0, .int .i64 0]).under bR); go_wp2_with fail
   refine hK.out _ _ trivial fun hH46 => ?_
   clear hK K hH45
   try simp only [pu]
   refine tk 6 77 hH46 ?_
   refine rdy [7, 12] ?_
   refine ad 78 (fun K hK => ?_) ?_
   go_simp; (
    (with_reducible refine (ks1 _).mono ?_)
    rintro e wKJRS ⟨ua, ub, rfl, t2⟩
    obtain ⟨A1, n1, rfl, _, _⟩ := own_form t2.own
    obtain ⟨A2, n2, rfl, _, _⟩ := own_form t2.tail.own
    have yKJRS := yKJR.join t2
    have ltJ := (yKJRS.tail.tail).blk.lt
    have neJ : ¬ (wKJRS.heap.size = wK.heap.size) := Nat.ne_of_gt ltJ
    obtain ⟨_, _, _, _, _, _⟩ := bk3 yKJRS.tail.tail.blk); go_wp2_with fail
   refine hK.out _ _ trivial fun hH47 => ?_
   clear hK K hH46
   try simp only [pu]
   refine tk 8 70 hH47 ?_
   refine tk 9 79 hH47 ?_
   refine tk 10 80 hH47 ?_
   refine tk 11 81 hH47 ?_
   refine rdy [12] ?_
   refine an 12 fun K hK => ?_
   go_simp
   refine hK.out _ _ trivial fun hH48 => ?_
   clear hK K hH47
   try simp only [pu]
   refine rdy [14] ?_
   refine az fun K hK => ?_
   go_simp
   refine hK.out _ _ trivial fun hH49 => ?_
   clear hK K hH48
   try simp only [pu]
   refine rdy [15] ?_
   refine az fun K hK => ?_
   go_simp
   refine hK.out _ _ trivial fun hH50 => ?_
   clear hK K hH49
   try simp only [pu]
   refine tk 16 14 hH50 ?_
   refine dn ?_ _
   rotate_left 1
   refine an 12 fun K hK => ?_
   go_simp
   refine hK.out _ _ trivial fun hH51 => ?_
   clear hK K hH46
   try simp only [pu]
   refine rdy [7] ?_
   refine an 78 fun K hK => ?_
   go_simp; (
    (with_reducible refine (ks1 _).mono ?_)
    rintro e wKJRGS ⟨ua, ub, rfl, t2⟩
    obtain ⟨A1, n1, rfl, _, _⟩ := own_form t2.own
    obtain ⟨A2, n2, rfl, _, _⟩ := own_form t2.tail.own
    have yKJRGS := (yKJR.alloc 32 #[.string ⟨#[]⟩, .int .i64 0, .string ⟨#[]⟩, .int .i64 0, .slice none 0 0, .slice none 0 0, .slice none 0 0]).join t2
    try simp only [World.size_alloc] at yKJRGS
    have ltG := (yKJRGS.tail.tail).blk.lt
    have neG : ¬ (wKJRGS.heap.size = wKJR.heap.size) := Nat.ne_of_gt ltG
    have ltJ := (yKJRGS.tail.tail.tail).blk.lt
    have neJ : ¬ (wKJRGS.heap.size = wK.heap.size) := Nat.ne_of_gt ltJ
    have ltJG : wK.heap.size < wKJR.heap.size := by first | exact (yKJR).blk.lt | (have := (yKJR).blk.lt; simp only [World.size_alloc] at this; exact this) | (have := (yKJR).blk.lt; simp only [World.size_drew, World.size_alloc] at this; exact this)
    have neJG : ¬ (wK.heap.size = wKJR.heap.size) := Nat.ne_of_lt ltJG
    have neGJ : ¬ (wKJR.heap.size = wK.heap.size) := Nat.ne_of_gt ltJG
    obtain ⟨_, _, _, _, _, _, _, _, _, _, _, _, _, _⟩ := bk7 yKJRGS.tail.tail.blk
    obtain ⟨_, _, _, _, _, _⟩ := bk3 yKJRGS.tail.tail.tail.blk); go_wp2_with fail
   refine hK.out _ _ trivial fun hH52 => ?_
   clear hK K hH51
   try simp only [pu]
   refine tk 8 70 hH52 ?_
   refine tk 9 79 hH52 ?_
   refine tk 10 80 hH52 ?_
   refine tk 11 81 hH52 ?_
   refine rdy [14] ?_
   refine az fun K hK => ?_
   go_simp
   refine hK.out _ _ trivial fun hH53 => ?_
   clear hK K hH52
   try simp only [pu]
   refine rdy [15] ?_
   refine az fun K hK => ?_
   go_simp
   refine hK.out _ _ trivial fun hH54 => ?_
   clear hK K hH53
   try simp only [pu]
   refine tk 16 14 hH54 ?_
   refine dn ?_ _
   rotate_left 1
   refine an 12 fun K hK => ?_
   go_simp
   refine hK.out _ _ trivial fun hH55 => ?_
   clear hK K hH45
   try simp only [pu]
   refine rdy [5] ?_
   refine an 76 fun K hK => ?_
   go_simp; (
    (with_reducible refine (kR1 _ _ _ (Rd.of_own (((yK.alloc 23 #[.string ⟨#[]⟩, .int .i64 0, .int .i64 0]).alloc 32 #[.string ⟨#[]⟩, .int .i64 0, .string ⟨#[]⟩, .int .i64 0, .slice none 0 0, .slice none 0 0, .slice none 0 0]).tail.tail.tail.own)) hc1 hm1).mono ?_)
    rintro e wKJGR ⟨rfl, bR⟩
    have yKJGR := ((yK.alloc 23 #[.string ⟨#[]⟩, .int .i64 0, .int .i64 0]).alloc 32 #[.string ⟨#[]⟩, .int .i64 0, .string ⟨#[]⟩, .int .i64 0, .slice none 0 0, .slice none 0 0, .slice none 0 0]).under bR
    try simp only [World.size_alloc] at yKJGR); go_wp2_with fail
   refine hK.out _ _ trivial fun hH56 => ?_
   clear hK K hH55
   try simp only [pu]
   refine tk 6 77 hH56 ?_
   refine rdy [7] ?_
   refine an 78 fun K hK => ?_
   go_simp; (
    (with_reducible refine (ks1 _).mono ?_)
    rintro e wKJGRS ⟨ua, ub, rfl, t2⟩
    obtain ⟨A1, n1, rfl, _, _⟩ := own_form t2.own
    obtain ⟨A2, n2, rfl, _, _⟩ := own_form t2.tail.own
    have yKJGRS := yKJGR.join t2
    try simp only [World.size_alloc] at yKJGRS
    have ltG := (yKJGRS.tail.tail).blk.lt
    have neG : ¬ (wKJGRS.heap.size = wK.heap.size + 1) := Nat.ne_of_gt ltG
    have ltJ := (yKJGRS.tail.tail.tail).blk.lt
    have neJ : ¬ (wKJGRS.heap.size = wK.heap.size) := Nat.ne_of_gt ltJ
    have ltJG : wK.heap.size < wK.heap.size + 1 := by first | exact ((yK.alloc 23 #[.string ⟨#[]⟩, .int .i64 0, .int .i64 0])).blk.lt | (have := ((yK.alloc 23 #[.string ⟨#[]⟩, .int .i64 0, .int .i64 0])).blk.lt; simp only [World.size_alloc] at this; exact this) | (have := ((yK.alloc 23 #[.string ⟨#[]⟩, .int .i64 0, .int .i64 0])).blk.lt; simp only [World.size_drew, World.size_alloc] at this; exact this)
    have neJG : ¬ (wK.heap.size = wK.heap.size + 1) := Nat.ne_of_lt ltJG
    have neGJ : ¬ (wK.heap.size + 1 = wK.heap.size) := Nat.ne_of_gt ltJG
    obtain ⟨_, _, _, _, _, _, _, _, _, _, _, _, _, _⟩ := bk7 yKJGRS.tail.tail.blk
    obtain ⟨_, _, _, _, _, _⟩ := bk3 yKJGRS.tail.tail.tail.blk); go_wp2_with fail
   refine hK.out _ _ trivial fun hH57 => ?_
   clear hK K hH56
   try simp only [pu]
   refine tk 8 70 hH57 ?_
   refine tk 9 79 hH57 ?_
   refine tk 10 80 hH57 ?_
   refine tk 11 81 hH57 ?_
   refine rdy [14] ?_
   refine az fun K hK => ?_
   go_simp
   refine hK.out _ _ trivial fun hH58 => ?_
   clear hK K hH57
   try simp only [pu]
   refine rdy [15] ?_
   refine az fun K hK => ?_
   go_simp
   refine hK.out _ _ trivial fun hH59 => ?_
   clear hK K hH58
   try simp only [pu]
   refine tk 16 14 hH59 ?_
   refine dn ?_ _
   rotate_left 1
   refine ad 12 (fun K hK => ?_) ?_
   go_simp
   refine hK.out _ _ trivial fun hH60 => ?_
   clear hK K hH0
   try simp only [pu]
   refine rdy [0, 13] ?_
   refine ad 71 (fun K hK => ?_) ?_
   go_simp; (
    (with_reducible refine (kr _).mono ?_)
    rintro e wGK ⟨rfl, bK⟩
    have yGK := (y6.alloc 32 #[.string ⟨#[]⟩, .int .i64 0, .string ⟨#[]⟩, .int .i64 0, .slice none 0 0, .slice none 0 0, .slice none 0 0]).drew.under bK); go_wp2_with fail
   refine hK.out _ _ trivial fun hH61 => ?_
   clear hK K hH60
   try simp only [pu]
   refine rdy [5, 13] ?_
   refine ad 76 (fun K hK => ?_) ?_
   go_simp; (
    (with_reducible refine (kR1 _ _ _ (Rd.of_own (yGK.tail.tail.own)) hc1 hm1).mono ?_)
    rintro e wGKR ⟨rfl, bR⟩
    have yGKR := yGK.under bR); go_wp2_with fail
   refine hK.out _ _ trivial fun hH62 => ?_
   clear hK K hH61
   try simp only [pu]
   refine tk 6 77 hH62 ?_
   refine rdy [7, 13] ?_
   refine ad 78 (fun K hK => ?_) ?_
   go_simp; (
    (with_reducible refine (ks1 _).mono ?_)
    rintro e wGKRS ⟨ua, ub, rfl, t2⟩
    obtain ⟨A1, n1, rfl, _, _⟩ := own_form t2.own
    obtain ⟨A2, n2, rfl, _, _⟩ := own_form t2.tail.own
    have yGKRS := yGKR.join t2
    have ltG := (yGKRS.tail.tail).blk.lt
    have neG : ¬ (wGKRS.heap.size = w6.heap.size) := Nat.ne_of_gt ltG
    obtain ⟨_, _, _, _, _, _, _, _, _, _, _, _, _, _⟩ := bk7 yGKRS.tail.tail.blk); go_wp2_with fail
   refine hK.out _ _ trivial fun hH63 => ?_
   clear hK K hH62
   try simp only [pu]
   refine tk 8 70 hH63 ?_
   refine tk 9 79 hH63 ?_
   refine tk 10 80 hH63 ?_
   refine tk 11 81 hH63 ?_
   refine rdy [13] ?_
   refine an 13 fun K hK => ?_
   go_simp
   refine hK.out _ _ trivial fun hH64 => ?_
   clear hK K hH63
   try simp only [pu]
   refine rdy [14] ?_
   refine az fun K hK => ?_
   go_simp
   refine hK.out _ _ trivial fun hH65 => ?_
   clear hK K hH64
   try simp only [pu]
   refine rdy [15] ?_
   refine az fun K hK => ?_
   go_simp
   refine hK.out _ _ trivial fun hH66 => ?_
   clear hK K hH65
   try simp only [pu]
   refine tk 16 14 hH66 ?_
   refine dn ?_ _
   rotate_left 1
   refine an 13 fun K hK => ?_
   go_simp
   refine hK.out _ _ trivial fun hH67 => ?_
   clear hK K hH62
   try simp only [pu]
   refine rdy [7] ?_
   refine an 78 fun K hK => ?_
   go_simp; (
    (with_reducible refine (ks1 _).mono ?_)
    rintro e wGKRJS ⟨ua, ub, rfl, t2⟩
    obtain ⟨A1, n1, rfl, _, _⟩ := own_form t2.own
    obtain ⟨A2, n2, rfl, _, _⟩ := own_form t2.tail.own
    have yGKRJS := (yGKR.alloc 23 #[.string ⟨#[]⟩, .int .i64 0, .int .i64 0]).join t2
    try simp only [World.size_alloc] at yGKRJS
    have ltG := (yGKRJS.tail.tail.tail).blk.lt
    have neG : ¬ (wGKRJS.heap.size = w6.heap.size) := Nat.ne_of_gt ltG
    have ltJ := (yGKRJS.tail.tail).blk.lt
    have neJ : ¬ (wGKRJS.heap.size = wGKR.heap.size) := Nat.ne_of_gt ltJ
    have ltGJ : w6.heap.size < wGKR.heap.size := by first | exact (yGKR).blk.lt | (have := (yGKR).blk.lt; simp only [World.size_alloc] at this; exact this) | (have := (yGKR).blk.lt; simp only [World.size_drew, World.size_alloc] at this; exact this)
    have neGJ : ¬ (w6.heap.size = wGKR.heap.size) := Nat.ne_of_lt ltGJ
    have neJG : ¬ (wGKR.heap.size = w6.heap.size) := Nat.ne_of_gt ltGJ
    obtain ⟨_, _, _, _, _, _, _, _, _, _, _, _, _, _⟩ := bk7 yGKRJS.tail.tail.tail.blk
    obtain ⟨_, _, _, _, _, _⟩ := bk3 yGKRJS.tail.tail.blk); go_wp2_with fail
   refine hK.out _ _ trivial fun hH68 => ?_
   clear hK K hH67
   try simp only [pu]
   refine tk 8 70 hH68 ?_
   refine tk 9 79 hH68 ?_
   refine tk 10 80 hH68 ?_
   refine tk 11 81 hH68 ?_
   refine rdy [14] ?_
   refine az fun K hK => ?_
   go_simp
   refine hK.out _ _ trivial fun hH69 => ?_
   clear hK K hH68
   try simp only [pu]
   refine rdy [15] ?_
   refine az fun K hK => ?_
   go_simp
   refine hK.out _ _ trivial fun hH70 => ?_
   clear hK K hH69
   try simp only [pu]
   refine tk 16 14 hH70 ?_
   refine dn ?_ _
   rotate_left 1
   refine an 13 fun K hK => ?_
   go_simp
   refine hK.out _ _ trivial fun hH71 => ?_
   clear hK K hH61
   try simp only [pu]
   refine rdy [5] ?_
   refine an 76 fun K hK => ?_
   go_simp; (
    (with_reducible refine (kR1 _ _ _ (Rd.of_own ((yGK.alloc 23 #[.string ⟨#[]⟩, .int .i64 0, .int .i64 0]).tail.tail.tail.own)) hc1 hm1).mono ?_)
    rintro e wGKJR ⟨rfl, bR⟩
    have yGKJR := (yGK.alloc 23 #[.string ⟨#[]⟩, .int .i64 0, .int .i64 0]).under bR
    try simp only [World.size_alloc] at yGKJR); go_wp2_with fail
   refine hK.out _ _ trivial fun hH72 => ?_
   clear hK K hH71
   try simp only [pu]
   refine tk 6 77 hH72 ?_
   refine rdy [7] ?_
   refine an 78 fun K hK => ?_
   go_simp; (
    (with_reducible refine (ks1 _).mono ?_)
    rintro e wGKJRS ⟨ua, ub, rfl, t2⟩
    obtain ⟨A1, n1, rfl, _, _⟩ := own_form t2.own
    obtain ⟨A2, n2, rfl, _, _⟩ := own_form t2.tail.own
    have yGKJRS := yGKJR.join t2
    try simp only [World.size_alloc] at yGKJRS
    have ltG := (yGKJRS.tail.tail.tail).blk.lt
    have neG : ¬ (wGKJRS.heap.size = w6.heap.size) := Nat.ne_of_gt ltG
    have ltJ := (yGKJRS.tail.tail).blk.lt
    have neJ : ¬ (wGKJRS.heap.size = wGK.heap.size) := Nat.ne_of_gt ltJ
    have ltGJ : w6.heap.size < wGK.heap.size := by first | exact (yGK).blk.lt | (have := (yGK).blk.lt; simp only [World.size_alloc] at this; exact this) | (have := (yGK).blk.lt; simp only [World.size_drew, World.size_alloc] at this; exact this)
    have neGJ : ¬ (w6.heap.size = wGK.heap.size) := Nat.ne_of_lt ltGJ
    have neJG : ¬ (wGK.heap.size = w6.heap.size) := Nat.ne_of_gt ltGJ
    obtain ⟨_, _, _, _, _, _, _, _, _, _, _, _, _, _⟩ := bk7 yGKJRS.tail.tail.tail.blk
    obtain ⟨_, _, _, _, _, _⟩ := bk3 yGKJRS.tail.tail.blk); go_wp2_with fail
   refine hK.out _ _ trivial fun hH73 => ?_
   clear hK K hH72
   try simp only [pu]
   refine tk 8 70 hH73 ?_
   refine tk 9 79 hH73 ?_
   refine tk 10 80 hH73 ?_
   refine tk 11 81 hH73 ?_
   refine rdy [14] ?_
   refine az fun K hK => ?_
   go_simp
   refine hK.out _ _ trivial fun hH74 => ?_
   clear hK K hH73
   try simp only [pu]
   refine rdy [15] ?_
   refine az fun K hK => ?_
   go_simp
   refine hK.out _ _ trivial fun hH75 => ?_
   clear hK K hH74
   try simp only [pu]
   refine tk 16 14 hH75 ?_
   refine dn ?_ _
   rotate_left 1
   refine an 13 fun K hK => ?_
   go_simp
   refine hK.out _ _ trivial fun hH76 => ?_
   clear hK K hH60
   try simp only [pu]
   refine rdy [0] ?_
   refine an 71 fun K hK => ?_
   go_simp; (
    (with_reducible refine (kr _).mono ?_)
    rintro e wGJK ⟨rfl, bK⟩
    have yGJK := ((y6.alloc 32 #[.string ⟨#[]⟩, .int .i64 0, .string ⟨#[]⟩, .int .i64 0, .slice none 0 0, .slice none 0 0, .slice none 0 0]).alloc 23 #[.string ⟨#[]⟩, .int .i64 0, .int .i64 0]).drew.under bK
    try simp only [World.size_alloc] at yGJK); go_wp2_with fail
   refine hK.out _ _ trivial fun hH77 => ?_
   clear hK K hH76
   try simp only [pu]
   refine rdy [5] ?_
   refine an 76 fun K hK => ?_
   go_simp; (
    (with_reducible refine (kR1 _ _ _ (Rd.of_own (yGJK.tail.tail.tail.own)) hc1 hm1).mono ?_)
    rintro e wGJKR ⟨rfl, bR⟩
    have yGJKR := yGJK.under bR
    try simp only [World.size_alloc] at yGJKR); go_wp2_with fail
   refine hK.out _ _ trivial fun hH78 => ?_
   clear hK K hH77
   try simp only [pu]
   refine tk 6 77 hH78 ?_
   refine rdy [7] ?_
   refine an 78 fun K hK => ?_
   go_simp; (
    (with_reducible refine (ks1 _).mono ?_)
    rintro e wGJKRS ⟨ua, ub, rfl, t2⟩
    obtain ⟨A1, n1, rfl, _, _⟩ := own_form t2.own
    obtain ⟨A2, n2, rfl, _, _⟩ := own_form t2.tail.own
    have yGJKRS := yGJKR.join t2
    try simp only [World.size_alloc] at yGJKRS
    have ltG := (yGJKRS.tail.tail.tail).blk.lt
    have neG : ¬ (wGJKRS.heap.size = w6.heap.size) := Nat.ne_of_gt ltG
    have ltJ := (yGJKRS.tail.tail).blk.lt
    have neJ : ¬ (wGJKRS.heap.size = w6.heap.size + 1) := Nat.ne_of_gt ltJ
    have ltGJ : w6.heap.size < w6.heap.size + 1 := by first | exact ((y6.alloc 32 #[.string ⟨#[]⟩, .int .i64 0, .string ⟨#[]⟩, .int .i64 0, .slice none 0 0, .slice none 0 0, .slice none 0 0]).drew).blk.lt | (have := ((y6.alloc 32 #[.string ⟨#[]⟩, .int .i64 0, .string ⟨#[]⟩, .int .i64 0, .slice none 0 0, .slice none 0 0, .slice none 0 0]).drew).blk.lt; simp only [World.size_alloc] at this; exact this) | (have := ((y6.alloc 32 #[.string ⟨#[]⟩, .int .i64 0, .string ⟨#[]⟩, .int .i64 0, .slice none 0 0, .slice none 0 0, .slice none 0 0]).drew).blk.lt; simp only [World.size_drew, World.size_alloc] at this; exact this)
    have neGJ : ¬ (w6.heap.size = w6.heap.size + 1) := Nat.ne_of_lt ltGJ
    have neJG : ¬ (w6.heap.size + 1 = w6.heap.size) := Nat.ne_of_gt ltGJ
    obtain ⟨_, _, _, _, _, _, _, _, _, _, _, _, _, _⟩ := bk7 yGJKRS.tail.tail.tail.blk
    obtain ⟨_, _, _, _, _, _⟩ := bk3 yGJKRS.tail.tail.blk); go_wp2_with fail
   refine hK.out _ _ trivial fun hH79 => ?_
   clear hK K hH78
   try simp only [pu]
   refine tk 8 70 hH79 ?_
   refine tk 9 79 hH79 ?_
   refine tk 10 80 hH79 ?_
   refine tk 11 81 hH79 ?_
   refine rdy [14] ?_
   refine az fun K hK => ?_
   go_simp
   refine hK.out _ _ trivial fun hH80 => ?_
   clear hK K hH79
   try simp only [pu]
   refine rdy [15] ?_
   refine az fun K hK => ?_
   go_simp
   refine hK.out _ _ trivial fun hH81 => ?_
   clear hK K hH80
   try simp only [pu]
   refine tk 16 14 hH81 ?_
   refine dn ?_ _
   rotate_left 1
   refine an 13 fun K hK => ?_
   go_simp
   refine hK.out _ _ trivial fun hH82 => ?_
   clear hK K hH0
   try simp only [pu]
   refine rdy [0, 12] ?_
   refine ad 71 (fun K hK => ?_) ?_
   go_simp; (
    (with_reducible refine (kr _).mono ?_)
    rintro e wJK ⟨rfl, bK⟩
    have yJK := (y6.alloc 23 #[.string ⟨#[]⟩, .int .i64 0, .int .i64 0]).drew.under bK); go_wp2_with fail
   refine hK.out _ _ trivial fun hH83 => ?_
   clear hK K hH82
   try simp only [pu]
   refine rdy [5, 12] ?_
   refine ad 76 (fun K hK => ?_) ?_
   go_simp; (
    (with_reducible refine (kR1 _ _ _ (Rd.of_own (yJK.tail.tail.own)) hc1 hm1).mono ?_)
    rintro e wJKR ⟨rfl, bR⟩
    have yJKR := yJK.under bR); go_wp2_with fail
   refine hK.out _ _ trivial fun hH84 => ?_
   clear hK K hH83
   try simp only [pu]
   refine tk 6 77 hH84 ?_
   refine rdy [7, 12] ?_
   refine ad 78 (fun K hK => ?_) ?_
   go_simp; (
    (with_reducible refine (ks1 _).mono ?_)
    rintro e wJKRS ⟨ua, ub, rfl, t2⟩
    obtain ⟨A1, n1, rfl, _, _⟩ := own_form t2.own
    obtain ⟨A2, n2, rfl, _, _⟩ := own_form t2.tail.own
    have yJKRS := yJKR.join t2
    have ltJ := (yJKRS.tail.tail).blk.lt
    have neJ : ¬ (wJKRS.heap.size = w6.heap.size) := Nat.ne_of_gt ltJ
    obtain ⟨_, _, _, _, _, _⟩ := bk3 yJKRS.tail.tail.blk); go_wp2_with fail
   refine hK.out _ _ trivial fun hH85 => ?_
   clear hK K hH84
   try simp only [pu]
   refine tk 8 70 hH85 ?_
   refine tk 9 79 hH85 ?_
   refine tk 10 80 hH85 ?_
   refine tk 11 81 hH85 ?_
   refine rdy [12] ?_
   refine an 12 fun K hK => ?_
   go_simp
   refine hK.out _ _ trivial fun hH86 => ?_
   clear hK K hH85
   try simp only [pu]
   refine rdy [14] ?_
   refine az fun K hK => ?_
   go_simp
   refine hK.out _ _ trivial fun hH87 => ?_
   clear hK K hH86
   try simp only [pu]
   refine rdy [15] ?_
   refine az fun K hK => ?_
   go_simp
   refine hK.out _ _ trivial fun hH88 => ?_
   clear hK K hH87
   try simp only [pu]
   refine tk 16 14 hH88 ?_
   refine dn ?_ _
   rotate_left 1
   refine an 12 fun K hK => ?_
   go_simp
   refine hK.out _ _ trivial fun hH89 => ?_
   clear hK K hH84
   try simp only [pu]
   refine rdy [7] ?_
   refine an 78 fun K hK => ?_
   go_simp; (
    (with_reducible refine (ks1 _).mono ?_)
    rintro e wJKRGS ⟨ua, ub, rfl, t2⟩
    obtain ⟨A1, n1, rfl, _, _⟩ := own_form t2.own
    obtain ⟨A2, n2, rfl, _, _⟩ := own_form t2.tail.own
    have yJKRGS := (yJKR.alloc 32 #[.string ⟨#[]⟩, .int .i64 0, .string ⟨#[]⟩, .int .i64 0, .slice none 0 0, .slice none 0 0, .slice none 0 0]).join t2
    try simp only [World.size_alloc] at yJKRGS
    have ltG := (yJKRGS.tail.tail).blk.lt
    have neG : ¬ (wJKRGS.heap.size = wJKR.heap.size) := Nat.ne_of_gt ltG
    have ltJ := (yJKRGS.tail.tail.tail).blk.lt
    have neJ : ¬ (wJKRGS.heap.size = w6.heap.size) := Nat.ne_of_gt ltJ
    have ltJG : w6.heap.size < wJKR.heap.size := by first | exact (yJKR).blk.lt | (have := (yJKR).blk.lt; simp only [World.size_alloc] at this; exact this) | (have := (yJKR).blk.lt; simp only [World.size_drew, World.size_alloc] at this; exact this)
    have neJG : ¬ (w6.heap.size = wJKR.heap.size) := Nat.ne_of_lt ltJG
    have neGJ : ¬ (wJKR.heap.size = w6.heap.size) := Nat.ne_of_gt ltJG
    obtain ⟨_, _, _, _, _, _, _, _, _, _, _, _, _, _⟩ := bk7 yJKRGS.tail.tail.blk
    obtain ⟨_, _, _, _, _, _⟩ := bk3 yJKRGS.tail.tail.tail.blk); go_wp2_with fail
   refine hK.out _ _ trivial fun hH90 => ?_
   clear hK K hH89
   try simp only [pu]
   refine tk 8 70 hH90 ?_
   refine tk 9 79 hH90 ?_
   refine tk 10 80 hH90 ?_
   refine tk 11 81 hH90 ?_
   refine rdy [14] ?_
   refine az fun K hK => ?_
   go_simp
   refine hK.out _ _ trivial fun hH91 => ?_
   clear hK K hH90
   try simp only [pu]
   refine rdy [15] ?_
   refine az fun K hK => ?_
   go_simp
   refine hK.out _ _ trivial fun hH92 => ?_
   clear hK K hH91
   try simp only [pu]
   refine tk 16 14 hH92 ?_
   refine dn ?_ _
   rotate_left 1
   refine an 12 fun K hK => ?_
   go_simp
   refine hK.out _ _ trivial fun hH93 => ?_
   clear hK K hH83
   try simp only [pu]
   refine rdy [5] ?_
   refine an 76 fun K hK => ?_
   go_simp; (
    (with_reducible refine (kR1 _ _ _ (Rd.of_own ((yJK.alloc 32 #[.string ⟨#[]⟩, .int .i64 0, .string ⟨#[]⟩, .int .i64 0, .slice none 0 0, .slice none 0 0, .slice none 0 0]).tail.tail.tail.own)) hc1 hm1).mono ?_)
    rintro e wJKGR ⟨rfl, bR⟩
    have yJKGR := (yJK.alloc 32 #[.string ⟨#[]⟩, .int .i64 0, .string ⟨#[]⟩, .int .i64 0, .slice none 0 0, .slice none 0 0, .slice none 0 0]).under bR
    try simp only [World.size_alloc] at yJKGR); go_wp2_with fail
   refine hK.out _ _ trivial fun hH94 => ?_
   clear hK K hH93
   try simp only [pu]
   refine tk 6 77 hH94 ?_
   refine rdy [7] ?_
   refine an 78 fun K hK => ?_
   go_simp; (
    (with_reducible refine (ks1 _).mono ?_)
    rintro e wJKGRS ⟨ua, ub, rfl, t2⟩
    obtain ⟨A1, n1, rfl, _, _⟩ := own_form t2.own
    obtain ⟨A2, n2, rfl, _, _⟩ := own_form t2.tail.own
    have yJKGRS := yJKGR.join t2
    try simp only [World.size_alloc] at yJKGRS
    have ltG := (yJKGRS.tail.tail).blk.lt
    have neG : ¬ (wJKGRS.heap.size = wJK.heap.size) := Nat.ne_of_gt ltG
    have ltJ := (yJKGRS.tail.tail.tail).blk.lt
    have neJ : ¬ (wJKGRS.heap.size = w6.heap.size) := Nat.ne_of_gt ltJ
    have ltJG : w6.heap.size < wJK.heap.size := by first | exact (yJK).blk.lt | (have := (yJK).blk.lt; simp only [World.size_alloc] at this; exact this) | (have := (yJK).blk.lt; simp only [World.size_drew, World.size_alloc] at this; exact this)
    have neJG : ¬ (w6.heap.size = wJK.heap.size) := Nat.ne_of_lt ltJG
    have neGJ : ¬ (wJK.heap.size = w6.heap.size) := Nat.ne_of_gt ltJG
    obtain ⟨_, _, _, _, _, _, _, _, _, _, _, _, _, _⟩ := bk7 yJKGRS.tail.tail.blk
    obtain ⟨_, _, _, _, _, _⟩ := bk3 yJKGRS.tail.tail.tail.blk); go_wp2_with fail
   refine hK.out _ _ trivial fun hH95 => ?_
   clear hK K hH94
   try simp only [pu]
   refine tk 8 70 hH95 ?_
   refine tk 9 79 hH95 ?_
   refine tk 10 80 hH95 ?_
   refine tk 11 81 hH95 ?_
   refine rdy [14] ?_
   refine az fun K hK => ?_
   go_simp
   refine hK.out _ _ trivial fun hH96 => ?_
   clear hK K hH95
   try simp only [pu]
   refine rdy [15] ?_
   refine az fun K hK => ?_
   go_simp
   refine hK.out _ _ trivial fun hH97 => ?_
   clear hK K hH96
   try simp only [pu]
   refine tk 16 14 hH97 ?_
   refine dn ?_ _
   rotate_left 1
   refine an 12 fun K hK => ?_
   go_simp
   refine hK.out _ _ trivial fun hH98 => ?_
   clear hK K hH82
   try simp only [pu]
   refine rdy [0] ?_
   refine an 71 fun K hK => ?_
   go_simp; (
    (with_reducible refine (kr _).mono ?_)
    rintro e wJGK ⟨rfl, bK⟩
    have yJGK := ((y6.alloc 23 #[.string ⟨#[]⟩, .int .i64 0, .int .i64 0]).alloc 32 #[.string ⟨#[]⟩, .int .i64 0, .string ⟨#[]⟩, .int .i64 0, .slice none 0 0, .slice none 0 0, .slice none 0 0]).drew.under bK
    try simp only [World.size_alloc] at yJGK); go_wp2_with fail
   refine hK.out _ _ trivial fun hH99 => ?_
   clear hK K hH98
   try simp only [pu]
   refine rdy [5] ?_
   refine an 76 fun K hK => ?_
   go_simp; (
    (with_reducible refine (kR1 _ _ _ (Rd.of_own (yJGK.tail.tail.tail.own)) hc1 hm1).mono ?_)
    rintro e wJGKR ⟨rfl, bR⟩
    have yJGKR := yJGK.under bR
    try simp only [World.size_alloc] at yJGKR); go_wp2_with fail
   refine hK.out _ _ trivial fun hH100 => ?_
   clear hK K hH99
   try simp only [pu]
   refine tk 6 77 hH100 ?_
   refine rdy [7] ?_
   refine an 78 fun K hK => ?_
   go_simp; (
    (with_reducible refine (ks1 _).mono ?_)
    rintro e wJGKRS ⟨ua, ub, rfl, t2⟩
    obtain ⟨A1, n1, rfl, _, _⟩ := own_form t2.own
    obtain ⟨A2, n2, rfl, _, _⟩ := own_form t2.tail.own
    have yJGKRS := yJGKR.join t2
    try simp only [World.size_alloc] at yJGKRS
    have ltG := (yJGKRS.tail.tail).blk.lt
    have neG : ¬ (wJGKRS.heap.size = w6.heap.size + 1) := Nat.ne_of_gt ltG
    have ltJ := (yJGKRS.tail.tail.tail).blk.lt
    have neJ : ¬ (wJGKRS.heap.size = w6.heap.size) := Nat.ne_of_gt ltJ
    have ltJG : w6.heap.size < w6.heap.size + 1 := by first | exact ((y6.alloc 23 #[.string ⟨#[]⟩, .int .i64 0, .int .i64 0]).drew).blk.lt | (have := ((y6.alloc 23 #[.string ⟨#[]⟩, .int .i64 0, .int .i64 0]).drew).blk.lt; simp only [World.size_alloc] at this; exact this) | (have := ((y6.alloc 23 #[.string ⟨#[]⟩, .int .i64 0, .int .i64 0]).drew).blk.lt; simp only [World.size_drew, World.size_alloc] at this; exact this)
    have neJG : ¬ (w6.heap.size = w6.heap.size + 1) := Nat.ne_of_lt ltJG
    have neGJ : ¬ (w6.heap.size + 1 = w6.heap.size) := Nat.ne_of_gt ltJG
    obtain ⟨_, _, _, _, _, _, _, _, _, _, _, _, _, _⟩ := bk7 yJGKRS.tail.tail.blk
    obtain ⟨_, _, _, _, _, _⟩ := bk3 yJGKRS.tail.tail.tail.blk); go_wp2_with fail
   refine hK.out _ _ trivial fun hH101 => ?_
   clear hK K hH100
   try simp only [pu]
   refine tk 8 70 hH101 ?_
   refine tk 9 79 hH101 ?_
   refine tk 10 80 hH101 ?_
   refine tk 11 81 hH101 ?_
   refine rdy [14] ?_
   refine az fun K hK => ?_
   go_simp
   refine hK.out _ _ trivial fun hH102 => ?_
   clear hK K hH101
   try simp only [pu]
   refine rdy [15] ?_
   refine az fun K hK => ?_
   go_simp
   refine hK.out _ _ trivial fun hH103 => ?_
   clear hK K hH102
   try simp only [pu]
   refine tk 16 14 hH103 ?_
   refine dn ?_ _
   all_goals (refine NoPanic.normal ?_)
   all_goals
    first
     | (have yF := ((yKRS.alloc 32 #[.string ⟨#[108, 111, 103]⟩, .int .i64 (n : Int), .string ⟨ra.toArray⟩, .int .i64 0, .slice A1 cA.length n1, .slice A2 tA.length n2, .slice none 0 0]).alloc 23 #[.string ⟨SR.toArray⟩, .int .i64 1, .int .i64 1]).pk [1, 0, 2, 3, 4, 5]
        try simp only [ws] at yF
        obtain ⟨pJ, hpJ⟩ : ∃ q, wKRS.heap.size + 1 = q := ⟨_, rfl⟩
        rw [hpJ] at yF ⊢
        obtain ⟨pG, hpG⟩ : ∃ q, wKRS.heap.size = q := ⟨_, rfl⟩
        rw [hpG] at yF ⊢
        exact ⟨rfl, pG, pJ, A1, A2, n1, n2, rfl, yF⟩)
     | (have yF := ((yKRS.alloc 23 #[.string ⟨SR.toArray⟩, .int .i64 1, .int .i64 1]).alloc 32 #[.string ⟨#[108, 111, 103]⟩, .int .i64 (n : Int), .string ⟨ra.toArray⟩, .int .i64 0, .slice A1 cA.length n1, .slice A2 tA.length n2, .slice none 0 0]).pk [0, 1, 2, 3, 4, 5]
        try simp only [ws] at yF
        obtain ⟨pG, hpG⟩ : ∃ q, wKRS.heap.size + 1 = q := ⟨_, rfl⟩
        rw [hpG] at yF ⊢
        obtain ⟨pJ, hpJ⟩ : ∃ q, wKRS.heap.size = q := ⟨_, rfl⟩
        rw [hpJ] at yF ⊢
        exact ⟨rfl, pG, pJ, A1, A2, n1, n2, rfl, yF⟩)
     | (have yF := (((((((((yKRGS.pk [2, 0, 1, 3, 4]).set_ 0 (.string ⟨#[108, 111, 103]⟩)).set_ 1 (.int .i64 (n : Int))).set_ 2 (.string ⟨ra.toArray⟩)).set_ 3 (.int .i64 0)).set_ 4 (.slice A1 cA.length n1)).set_ 5 (.slice A2 tA.length n2)).set_ 6 (.slice none 0 0)).alloc 23 #[.string ⟨SR.toArray⟩, .int .i64 1, .int .i64 1]).pk [1, 0, 2, 3, 4, 5]
        try simp only [ws] at yF
        obtain ⟨pJ, hpJ⟩ : ∃ q, wKRGS.heap.size = q := ⟨_, rfl⟩
        rw [hpJ] at yF ⊢
        obtain ⟨pG, hpG⟩ : ∃ q, wKR.heap.size = q := ⟨_, rfl⟩
        rw [hpG] at yF ⊢
        exact ⟨rfl, pG, pJ, A1, A2, n1, n2, rfl, yF⟩)
     | (have yF := ((((((((((((yKRGJS.pk [3, 0, 1, 2, 4, 5]).set_ 0 (.string ⟨#[108, 111, 103]⟩)).set_ 1 (.int .i64 (n : Int))).set_ 2 (.string ⟨ra.toArray⟩)).set_ 3 (.int .i64 0)).set_ 4 (.slice A1 cA.length n1)).set_ 5 (.slice A2 tA.length n2)).set_ 6 (.slice none 0 0)).pk [3, 0, 1, 2, 4, 5]).set_ 0 (.string ⟨SR.toArray⟩)).set_ 1 (.int .i64 1)).set_ 2 (.int .i64 1)).pk [1, 0, 2, 3, 4, 5]
        try simp only [ws] at yF
        obtain ⟨pJ, hpJ⟩ : ∃ q, wKR.heap.size + 1 = q := ⟨_, rfl⟩
        rw [hpJ] at yF ⊢
        obtain ⟨pG, hpG⟩ : ∃ q, wKR.heap.size = q := ⟨_, rfl⟩
        rw [hpG] at yF ⊢
        exact ⟨rfl, pG, pJ, A1, A2, n1, n2, rfl, yF⟩)
     | (have yF := (((((yKRJS.pk [2, 0, 1, 3, 4]).set_ 0 (.string ⟨SR.toArray⟩)).set_ 1 (.int .i64 1)).set_ 2 (.int .i64 1)).alloc 32 #[.string ⟨#[108, 111, 103]⟩, .int .i64 (n : Int), .string ⟨ra.toArray⟩, .int .i64 0, .slice A1 cA.length n1, .slice A2 tA.length n2, .slice none 0 0]).pk [0, 1, 2, 3, 4, 5]
        try simp only [ws] at yF
        obtain ⟨pG, hpG⟩ : ∃ q, wKRJS.heap.size = q := ⟨_, rfl⟩
        rw [hpG] at yF ⊢
        obtain ⟨pJ, hpJ⟩ : ∃ q, wKR.heap.size = q := ⟨_, rfl⟩
        rw [hpJ] at yF ⊢
        exact ⟨rfl, pG, pJ, A1, A2, n1, n2, rfl, yF⟩)
     | (have yF := ((((((((((((yKRJGS.pk [2, 0, 1, 3, 4, 5]).set_ 0 (.string ⟨#[108, 111, 103]⟩)).set_ 1 (.int .i64 (n : Int))).set_ 2 (.string ⟨ra.toArray⟩)).set_ 3 (.int .i64 0)).set_ 4 (.slice A1 cA.length n1)).set_ 5 (.slice A2 tA.length n2)).set_ 6 (.slice none 0 0)).pk [3, 0, 1, 2, 4, 5]).set_ 0 (.string ⟨SR.toArray⟩)).set_ 1 (.int .i64 1)).set_ 2 (.int .i64 1)).pk [1, 0, 2, 3, 4, 5]
        try simp only [ws] at yF
        obtain ⟨pG, hpG⟩ : ∃ q, wKR.heap.size + 1 = q := ⟨_, rfl⟩
        rw [hpG] at yF ⊢
        obtain ⟨pJ, hpJ⟩ : ∃ q, wKR.heap.size = q := ⟨_, rfl⟩
        rw [hpJ] at yF ⊢
        exact ⟨rfl, pG, pJ, A1, A2, n1, n2, rfl, yF⟩)
     | (have yF := (((((((((yKGRS.pk [2, 0, 1, 3, 4]).set_ 0 (.string ⟨#[108, 111, 103]⟩)).set_ 1 (.int .i64 (n : Int))).set_ 2 (.string ⟨ra.toArray⟩)).set_ 3 (.int .i64 0)).set_ 4 (.slice A1 cA.length n1)).set_ 5 (.slice A2 tA.length n2)).set_ 6 (.slice none 0 0)).alloc 23 #[.string ⟨SR.toArray⟩, .int .i64 1, .int .i64 1]).pk [1, 0, 2, 3, 4, 5]
        try simp only [ws] at yF
        obtain ⟨pJ, hpJ⟩ : ∃ q, wKGRS.heap.size = q := ⟨_, rfl⟩
        rw [hpJ] at yF ⊢
        obtain ⟨pG, hpG⟩ : ∃ q, wK.heap.size = q := ⟨_, rfl⟩
        rw [hpG] at yF ⊢
        exact ⟨rfl, pG, pJ, A1, A2, n1, n2, rfl, yF⟩)
     | (have yF := ((((((((((((yKGRJS.pk [3, 0, 1, 2, 4, 5]).set_ 0 (.string ⟨#[108, 111, 103]⟩)).set_ 1 (.int .i64 (n : Int))).set_ 2 (.string ⟨ra.toArray⟩)).set_ 3 (.int .i64 0)).set_ 4 (.slice A1 cA.length n1)).set_ 5 (.slice A2 tA.length n2)).set_ 6 (.slice none 0 0)).pk [3, 0, 1, 2, 4, 5]).set_ 0 (.string ⟨SR.toArray⟩)).set_ 1 (.int .i64 1)).set_ 2 (.int .i64 1)).pk [1, 0, 2, 3, 4, 5]
        try simp only [ws] at yF
        obtain ⟨pJ, hpJ⟩ : ∃ q, wKGR.heap.size = q := ⟨_, rfl⟩
        rw [hpJ] at yF ⊢
        obtain ⟨pG, hpG⟩ : ∃ q, wK.heap.size = q := ⟨_, rfl⟩
        rw [hpG] at yF ⊢
        exact ⟨rfl, pG, pJ, A1, A2, n1, n2, rfl, yF⟩)
     | (have yF := ((((((((((((yKGJRS.pk [3, 0, 1, 2, 4, 5]).set_ 0 (.string ⟨#[108, 111, 103]⟩)).set_ 1 (.int .i64 (n : Int))).set_ 2 (.string ⟨ra.toArray⟩)).set_ 3 (.int .i64 0)).set_ 4 (.slice A1 cA.length n1)).set_ 5 (.slice A2 tA.length n2)).set_ 6 (.slice none 0 0)).pk [3, 0, 1, 2, 4, 5]).set_ 0 (.string ⟨SR.toArray⟩)).set_ 1 (.int .i64 1)).set_ 2 (.int .i64 1)).pk [1, 0, 2, 3, 4, 5]
        try simp only [ws] at yF
        obtain ⟨pJ, hpJ⟩ : ∃ q, wK.heap.size + 1 = q := ⟨_, rfl⟩
        rw [hpJ] at yF ⊢
        obtain ⟨pG, hpG⟩ : ∃ q, wK.heap.size = q := ⟨_, rfl⟩
        rw [hpG] at yF ⊢
        exact ⟨rfl, pG, pJ, A1, A2, n1, n2, rfl, yF⟩)
     | (have yF := (((((yKJRS.pk [2, 0, 1, 3, 4]).set_ 0 (.string ⟨SR.toArray⟩)).set_ 1 (.int .i64 1)).set_ 2 (.int .i64 1)).alloc 32 #[.string ⟨#[108, 111, 103]⟩, .int .i64 (n : Int), .string ⟨ra.toArray⟩, .int .i64 0, .slice A1 cA.length n1, .slice A2 tA.length n2, .slice none 0 0]).pk [0, 1, 2, 3, 4, 5]
        try simp only [ws] at yF
        obtain ⟨pG, hpG⟩ : ∃ q, wKJRS.heap.size = q := ⟨_, rfl⟩
        rw [hpG] at yF ⊢
        obtain ⟨pJ, hpJ⟩ : ∃ q, wK.heap.size = q := ⟨_, rfl⟩
        rw [hpJ] at yF ⊢
        exact ⟨rfl, pG, pJ, A1, A2, n1, n2, rfl, yF⟩)
     | (have yF := ((((((((((((yKJRGS.pk [2, 0, 1, 3, 4, 5]).set_ 0 (.string ⟨#[108, 111, 103]⟩)).set_ 1 (.int .i64 (n : Int))).set_ 2 (.string ⟨ra.toArray⟩)).set_ 3 (.int .i64 0)).set_ 4 (.slice A1 cA.length n1)).set_ 5 (.slice A2 tA.length n2)).set_ 6 (.slice none 0 0)).pk [3, 0, 1, 2, 4, 5]).set_ 0 (.string ⟨SR.toArray⟩)).set_ 1 (.int .i64 1)).set_ 2 (.int .i64 1)).pk [1, 0, 2, 3, 4, 5]
        try simp only [ws] at yF
        obtain ⟨pG, hpG⟩ : ∃ q, wKJR.heap.size = q := ⟨_, rfl⟩
        rw [hpG] at yF ⊢
        obtain ⟨pJ, hpJ⟩ : ∃ q, wK.heap.size = q := ⟨_, rfl⟩
        rw [hpJ] at yF ⊢
        exact ⟨rfl, pG, pJ, A1, A2, n1, n2, rfl, yF⟩)
     | (have yF := ((((((((((((yKJGRS.pk [2, 0, 1, 3, 4, 5]).set_ 0 (.string ⟨#[108, 111, 103]⟩)).set_ 1 (.int .i64 (n : Int))).set_ 2 (.string ⟨ra.toArray⟩)).set_ 3 (.int .i64 0)).set_ 4 (.slice A1 cA.length n1)).set_ 5 (.slice A2 tA.length n2)).set_ 6 (.slice none 0 0)).pk [3, 0, 1, 2, 4, 5]).set_ 0 (.string ⟨SR.toArray⟩)).set_ 1 (.int .i64 1)).set_ 2 (.int .i64 1)).pk [1, 0, 2, 3, 4, 5]
        try simp only [ws] at yF
        obtain ⟨pG, hpG⟩ : ∃ q, wK.heap.size + 1 = q := ⟨_, rfl⟩
        rw [hpG] at yF ⊢
        obtain ⟨pJ, hpJ⟩ : ∃ q, wK.heap.size = q := ⟨_, rfl⟩
        rw [hpJ] at yF ⊢
        exact ⟨rfl, pG, pJ, A1, A2, n1, n2, rfl, yF⟩)
     | (have yF := (((((((((yGKRS.pk [2, 0, 1, 3, 4]).set_ 0 (.string ⟨#[108, 111, 103]⟩)).set_ 1 (.int .i64 (n : Int))).set_ 2 (.string ⟨ra.toArray⟩)).set_ 3 (.int .i64 0)).set_ 4 (.slice A1 cA.length n1)).set_ 5 (.slice A2 tA.length n2)).set_ 6 (.slice none 0 0)).alloc 23 #[.string ⟨SR.toArray⟩, .int .i64 1, .int .i64 1]).pk [1, 0, 2, 3, 4, 5]
        try simp only [ws] at yF
        obtain ⟨pJ, hpJ⟩ : ∃ q, wGKRS.heap.size = q := ⟨_, rfl⟩
        rw [hpJ] at yF ⊢
        obtain ⟨pG, hpG⟩ : ∃ q, w6.heap.size = q := ⟨_, rfl⟩
        rw [hpG] at yF ⊢
        exact ⟨rfl, pG, pJ, A1, A2, n1, n2, rfl, yF⟩)
     | (have yF := ((((((((((((yGKRJS.pk [3, 0, 1, 2, 4, 5]).set_ 0 (.string ⟨#[108, 111, 103]⟩)).set_ 1 (.int .i64 (n : Int))).set_ 2 (.string ⟨ra.toArray⟩)).set_ 3 (.int .i64 0)).set_ 4 (.slice A1 cA.length n1)).set_ 5 (.slice A2 tA.length n2)).set_ 6 (.slice none 0 0)).pk [3, 0, 1, 2, 4, 5]).set_ 0 (.string ⟨SR.toArray⟩)).set_ 1 (.int .i64 1)).set_ 2 (.int .i64 1)).pk [1, 0, 2, 3, 4, 5]
        try simp only [ws] at yF
        obtain ⟨pJ, hpJ⟩ : ∃ q, wGKR.heap.size = q := ⟨_, rfl⟩
        rw [hpJ] at yF ⊢
        obtain ⟨pG, hpG⟩ : ∃ q, w6.heap.size = q := ⟨_, rfl⟩
        rw [hpG] at yF ⊢
        exact ⟨rfl, pG, pJ, A1, A2, n1, n2, rfl, yF⟩)
     | (have yF := ((((((((((((yGKJRS.pk [3, 0, 1, 2, 4, 5]).set_ 0 (.string ⟨#[108, 111, 103]⟩)).set_ 1 (.int .i64 (n : Int))).set_ 2 (.string ⟨ra.toArray⟩)).set_ 3 (.int .i64 0)).set_ 4 (.slice A1 cA.length n1)).set_ 5 (.slice A2 tA.length n2)).set_ 6 (.slice none 0 0)).pk [3, 0, 1, 2, 4, 5]).set_ 0 (.string ⟨SR.toArray⟩)).set_ 1 (.int .i64 1)).set_ 2 (.int .i64 1)).pk [1, 0, 2, 3, 4, 5]
        try simp only [ws] at yF
        obtain ⟨pJ, hpJ⟩ : ∃ q, wGK.heap.size = q := ⟨_, rfl⟩
        rw [hpJ] at yF ⊢
        obtain ⟨pG, hpG⟩ : ∃ q, w6.heap.size = q := ⟨_, rfl⟩
        rw [hpG] at yF ⊢
        exact ⟨rfl, pG, pJ, A1, A2, n1, n2, rfl, yF⟩)
     | (have yF := ((((((((((((yGJKRS.pk [3, 0, 1, 2, 4, 5]).set_ 0 (.string ⟨#[108, 111, 103]⟩)).set_ 1 (.int .i64 (n : Int))).set_ 2 (.string ⟨ra.toArray⟩)).set_ 3 (.int .i64 0)).set_ 4 (.slice A1 cA.length n1)).set_ 5 (.slice A2 tA.length n2)).set_ 6 (.slice none 0 0)).pk [3, 0, 1, 2, 4, 5]).set_ 0 (.string ⟨SR.toArray⟩)).set_ 1 (.int .i64 1)).set_ 2 (.int .i64 1)).pk [1, 0, 2, 3, 4, 5]
        try simp only [ws] at yF
        obtain ⟨pJ, hpJ⟩ : ∃ q, w6.heap.size + 1 = q := ⟨_, rfl⟩
        rw [hpJ] at yF ⊢
        obtain ⟨pG, hpG⟩ : ∃ q, w6.heap.size = q := ⟨_, rfl⟩
        rw [hpG] at yF ⊢
        exact ⟨rfl, pG, pJ, A1, A2, n1, n2, rfl, yF⟩)
     | (have yF := (((((yJKRS.pk [2, 0, 1, 3, 4]).set_ 0 (.string ⟨SR.toArray⟩)).set_ 1 (.int .i64 1)).set_ 2 (.int .i64 1)).alloc 32 #[.string ⟨#[108, 111, 103]⟩, .int .i64 (n : Int), .string ⟨ra.toArray⟩, .int .i64 0, .slice A1 cA.length n1, .slice A2 tA.length n2, .slice none 0 0]).pk [0, 1, 2, 3, 4, 5]
        try simp only [ws] at yF
        obtain ⟨pG, hpG⟩ : ∃ q, wJKRS.heap.size = q := ⟨_, rfl⟩
        rw [hpG] at yF ⊢
        obtain ⟨pJ, hpJ⟩ : ∃ q, w6.heap.size = q := ⟨_, rfl⟩
        rw [hpJ] at yF ⊢
        exact ⟨rfl, pG, pJ, A1, A2, n1, n2, rfl, yF⟩)
     | (have yF := ((((((((((((yJKRGS.pk [2, 0, 1, 3, 4, 5]).set_ 0 (.string ⟨#[108, 111, 103]⟩)).set_ 1 (.int .i64 (n : Int))).set_ 2 (.string ⟨ra.toArray⟩)).set_ 3 (.int .i64 0)).set_ 4 (.slice A1 cA.length n1)).set_ 5 (.slice A2 tA.length n2)).set_ 6 (.slice none 0 0)).pk [3, 0, 1, 2, 4, 5]).set_ 0 (.string ⟨SR.toArray⟩)).set_ 1 (.int .i64 1)).set_ 2 (.int .i64 1)).pk [1, 0, 2, 3, 4, 5]
        try simp only [ws] at yF
        obtain ⟨pG, hpG⟩ : ∃ q, wJKR.heap.size = q := ⟨_, rfl⟩
        rw [hpG] at yF ⊢
        obtain ⟨pJ, hpJ⟩ : ∃ q, w6.heap.size = q := ⟨_, rfl⟩
        rw [hpJ] at yF ⊢
        exact ⟨rfl, pG, pJ, A1, A2, n1, n2, rfl, yF⟩)
     | (have yF := ((((((((((((yJKGRS.pk [2, 0, 1, 3, 4, 5]).set_ 0 (.string ⟨#[108, 111, 103]⟩)).set_ 1 (.int .i64 (n : Int))).set_ 2 (.string ⟨ra.toArray⟩)).set_ 3 (.int .i64 0)).set_ 4 (.slice A1 cA.length n1)).set_ 5 (.slice A2 tA.length n2)).set_ 6 (.slice none 0 0)).pk [3, 0, 1, 2, 4, 5]).set_ 0 (.string ⟨SR.toArray⟩)).set_ 1 (.int .i64 1)).set_ 2 (.int .i64 1)).pk [1, 0, 2, 3, 4, 5]
        try simp only [ws] at yF
        obtain ⟨pG, hpG⟩ : ∃ q, wJK.heap.size = q := ⟨_, rfl⟩
        rw [hpG] at yF ⊢
        obtain ⟨pJ, hpJ⟩ : ∃ q, w6.heap.size = q := ⟨_, rfl⟩
        rw [hpJ] at yF ⊢
        exact ⟨rfl, pG, pJ, A1, A2, n1, n2, rfl, yF⟩)
     | (have yF := ((((((((((((yJGKRS.pk [2, 0, 1, 3, 4, 5]).set_ 0 (.string ⟨#[108, 111, 103]⟩)).set_ 1 (.int .i64 (n : Int))).set_ 2 (.string ⟨ra.toArray⟩)).set_ 3 (.int .i64 0)).set_ 4 (.slice A1 cA.length n1)).set_ 5 (.slice A2 tA.length n2)).set_ 6 (.slice none 0 0)).pk [3, 0, 1, 2, 4, 5]).set_ 0 (.string ⟨SR.toArray⟩)).set_ 1 (.int .i64 1)).set_ 2 (.int .i64 1)).pk [1, 0, 2, 3, 4, 5]
        try simp only [ws] at yF
        obtain ⟨pG, hpG⟩ : ∃ q, w6.heap.size + 1 = q := ⟨_, rfl⟩
        rw [hpG] at yF ⊢
        obtain ⟨pJ, hpJ⟩ : ∃ q, w6.heap.size = q := ⟨_, rfl⟩
        rw [hpJ] at yF ⊢
        exact ⟨rfl, pG, pJ, A1, A2, n1, n2, rfl, yF⟩)
  case k =>
   rintro pa ka A1 A2 n1 n2 w7 y7
   have hS : ∀ W', Blk W' ka 23 #[.string ⟨SR.toArray⟩, .int .i64 1, .int .i64 1] → (W'.cell? ⟨ka, 0, none⟩ = some (.string ⟨SR.toArray⟩) ∧ W'.cell? ⟨ka, 1, none⟩ = some (.int .i64 1) ∧ W'.cell? ⟨ka, 2, none⟩ = some (.int .i64 1)) := fun W' hh => ⟨hh.cell 0, hh.cell 1, hh.cell 2⟩
   obtain ⟨ucA1, ucA2⟩ : cA.length ≤ n1 ∧ n1 ≤ maxLen := by (obtain ⟨_, _, e, q1, q2⟩ := own_form y7.tail.tail.own; injection e with _ _ e; subst e; exact ⟨q1, q2⟩)
   obtain ⟨utA1, utA2⟩ : tA.length ≤ n2 ∧ n2 ≤ maxLen := by (obtain ⟨_, _, e, q1, q2⟩ := own_form y7.tail.tail.tail.own; injection e with _ _ e; subst e; exact ⟨q1, q2⟩)
   have UA := Lib.hid (And.intro ucA1 (And.intro ucA2 (And.intro utA1 utA2)))
   clear ucA1 ucA2 utA1 utA2 y6 kR1 ks1 kr m1
   go_wp2_with fail
   apply region_via6 (fun (pb kb : Nat) (A3 A4 : Option Addr) (n3 n4 : Nat) w' => St w.heap.size w w' [cellsR (pb) 32 #[.string ⟨#[108, 111, 103]⟩, .int .i64 (m : Int), .string ⟨rb.toArray⟩, .int .i64 1, .slice A3 cB.length n3, .slice A4 tB.length n4, .slice none 0 0], cellsR (kb) 23 #[.string ⟨SR.toArray⟩, .int .i64 1, .int .i64 2], ownR 9 1 (.slice A3 cB.length n3) cB.length (strs cB), ownR 9 1 (.slice A4 tB.length n4) tB.length (strs tB), cellsR (pa) 32 #[.string ⟨#[108, 111, 103]⟩, .int .i64 (n : Int), .string ⟨ra.toArray⟩, .int .i64 0, .slice A1 cA.length n1, .slice A2 tA.length n2, .slice none 0 0], cellsR (ka) 23 #[.string ⟨SR.toArray⟩, .int .i64 1, .int .i64 1], ownR 9 1 (.slice A1 cA.length n1) cA.length (strs cA), ownR 9 1 (.slice A2 tA.length n2) tA.length (strs tA), ownR 9 1 (.slice P2 m c2) m (strs M), ownR 9 1 (.slice P1 N c1) N (strs L)])
   case h =>
    have q0 := y7.drew
    have sf := hS _ (q0.tail.blk)
    clear q0
    have qG0 := (y7.alloc 32 #[.string ⟨#[]⟩, .int .i64 0, .string ⟨#[]⟩, .int .i64 0, .slice none 0 0, .slice none 0 0, .slice none 0 0]).drew
    have sfG := hS _ (qG0.tail.tail.blk)
    clear qG0
    have qGJ0 := ((y7.alloc 32 #[.string ⟨#[]⟩, .int .i64 0, .string ⟨#[]⟩, .int .i64 0, .slice none 0 0, .slice none 0 0, .slice none 0 0]).alloc 23 #[.string ⟨#[]⟩, .int .i64 0, .int .i64 0]).drew
    have sfGJ := hS _ (qGJ0.tail.tail.tail.blk)
    clear qGJ0
    have qJ0 := (y7.alloc 23 #[.string ⟨#[]⟩, .int .i64 0, .int .i64 0]).drew
    have sfJ := hS _ (qJ0.tail.tail.blk)
    clear qJ0
    have qJG0 := ((y7.alloc 23 #[.string ⟨#[]⟩, .int .i64 0, .int .i64 0]).alloc 32 #[.string ⟨#[]⟩, .int .i64 0, .string ⟨#[]⟩, .int .i64 0, .slice none 0 0, .slice none 0 0, .slice none 0 0]).drew
    have sfJG := hS _ (qJG0.tail.tail.tail.blk)
    clear qJG0
    refine wp_region_noPanic ?_
    refine wp_region_held_drew (S := (fun W' => W'.cell? ⟨ka, 0, none⟩ = some (.string ⟨SR.toArray⟩) ∧ W'.cell? ⟨ka, 1, none⟩ = some (.int .i64 1) ∧ W'.cell? ⟨ka, 2, none⟩ = some (.int .i64 1))) (by kernel_rfl) ?_ (fun hH0 => ?_)
    ·with_reducible exact sf
    refine tk 0 83 hH0 ?_
    refine tk 1 84 hH0 ?_
    refine tk 2 85 hH0 ?_
    refine tk 3 86 hH0 ?_
    refine rdy [4, 11, 12] ?_
    refine ad 87 (fun K hK => ?_) ?_
    go_simp; (
     (with_reducible refine (kRM _ _ _ (Rd.of_own (y7.drew.tail.tail.tail.tail.own)) hc2 hm2).mono ?_)
     rintro e wR ⟨rfl, bR⟩
     have yR := y7.drew.under bR
     have sfR := hS _ (yR.tail.blk)
     have qRG0 := (yR.alloc 32 #[.string ⟨#[]⟩, .int .i64 0, .string ⟨#[]⟩, .int .i64 0, .slice none 0 0, .slice none 0 0, .slice none 0 0])
     have sfRG := hS _ (qRG0.tail.tail.blk)
     clear qRG0
     have qRGJ0 := ((yR.alloc 32 #[.string ⟨#[]⟩, .int .i64 0, .string ⟨#[]⟩, .int .i64 0, .slice none 0 0, .slice none 0 0, .slice none 0 0]).alloc 23 #[.string ⟨#[]⟩, .int .i64 0, .int .i64 0])
     have sfRGJ := hS _ (qRGJ0.tail.tail.tail.blk)
     clear qRGJ0
     have qRJ0 := (yR.alloc 23 #[.string ⟨#[]⟩, .int .i64 0, .int .i64 0])
     have sfRJ := hS _ (qRJ0.tail.tail.blk)
     clear qRJ0
     have qRJG0 := ((yR.alloc 23 #[.string ⟨#[]⟩, .int .i64 0, .int .i64 0]).alloc 32 #[.string ⟨#[]⟩, .int .i64 0, .string ⟨#[]⟩, .int .i64 0, .slice none 0 0, .slice none 0 0, .slice none 0 0])
     have sfRJG := hS _ (qRJG0.tail.tail.tail.blk)
     clear qRJG0); go_wp2_with fail
    refine hK.out _ _ (by with_reducible exact sfR) fun hH1 => ?_
    clear hK K hH0
    try simp only [pu]
    refine tk 5 88 hH1 ?_
    refine rdy [6, 11, 12] ?_
    refine ad 89 (fun K hK => ?_) ?_
    go_simp; (
     (with_reducible refine (ks2 _).mono ?_)
     rintro e wRS ⟨ua, ub, rfl, t2⟩
     obtain ⟨A3, n3, rfl, _, _⟩ := own_form t2.own
     obtain ⟨A4, n4, rfl, _, _⟩ := own_form t2.tail.own
     have yRS := yR.join t2
     have sfRS := hS _ (yRS.tail.tail.tail.blk)
     have qRSG0 := (yRS.alloc 32 #[.string ⟨#[]⟩, .int .i64 0, .string ⟨#[]⟩, .int .i64 0, .slice none 0 0, .slice none 0 0, .slice none 0 0])
     have sfRSG := hS _ (qRSG0.tail.tail.tail.tail.blk)
     clear qRSG0
     have qRSGJ0 := ((yRS.alloc 32 #[.string ⟨#[]⟩, .int .i64 0, .string ⟨#[]⟩, .int .i64 0, .slice none 0 0, .slice none 0 0, .slice none 0 0]).alloc 23 #[.string ⟨#[]⟩, .int .i64 0, .int .i64 0])
     have sfRSGJ := hS _ (qRSGJ0.tail.tail.tail.tail.tail.blk)
     clear qRSGJ0
     have qRSGJ1 := ((yRS.alloc 32 #[.string ⟨#[108, 111, 103]⟩, .int .i64 (m : Int), .string ⟨rb.toArray⟩, .int .i64 1, .slice A3 cB.length n3, .slice A4 tB.length n4, .slice none 0 0]).alloc 23 #[.string ⟨#[]⟩, .int .i64 0, .int .i64 0])
     have sfRSGJ1 := hS _ (qRSGJ1.tail.tail.tail.tail.tail.blk)
     clear qRSGJ1
     have qRSGJ2 := ((yRS.alloc 32 #[.string ⟨#[108, 111, 103]⟩, .int .i64 (m : Int), .string ⟨rb.toArray⟩, .int .i64 1, .slice A3 cB.length n3, .slice A4 tB.length n4, .slice none 0 0]).alloc 23 #[.string ⟨SR.toArray⟩, .int .i64 1, .int .i64 2])
     have sfRSGJ2 := hS _ (qRSGJ2.tail.tail.tail.tail.tail.blk)
     clear qRSGJ2
     have qRSJ0 := (yRS.alloc 23 #[.string ⟨#[]⟩, .int .i64 0, .int .i64 0])
     have sfRSJ := hS _ (qRSJ0.tail.tail.tail.tail.blk)
     clear qRSJ0
     have qRSJG0 := ((yRS.alloc 23 #[.string ⟨#[]⟩, .int .i64 0, .int .i64 0]).alloc 32 #[.string ⟨#[]⟩, .int .i64 0, .string ⟨#[]⟩, .int .i64 0, .slice none 0 0, .slice none 0 0, .slice none 0 0])
     have sfRSJG := hS _ (qRSJG0.tail.tail.tail.tail.tail.blk)
     clear qRSJG0
     have qRSJG1 := ((yRS.alloc 23 #[.string ⟨#[]⟩, .int .i64 0, .int .i64 0]).alloc 32 #[.string ⟨#[108, 111, 103]⟩, .int .i64 (m : Int), .string ⟨rb.toArray⟩, .int .i64 1, .slice A3 cB.length n3, .slice A4 tB.length n4, .slice none 0 0])
     have sfRSJG1 := hS _ (qRSJG1.tail.tail.tail.tail.tail.blk)
     clear qRSJG1
     have qRSJG2 := ((yRS.alloc 23 #[.string ⟨SR.toArray⟩, .int .i64 1, .int .i64 2]).alloc 32 #[.string ⟨#[108, 111, 103]⟩, .int .i64 (m : Int), .string ⟨rb.toArray⟩, .int .i64 1, .slice A3 cB.length n3, .slice A4 tB.length n4, .slice none 0 0])
     have sfRSJG2 := hS _ (qRSJG2.tail.tail.tail.tail.tail.blk)
     clear qRSJG2); go_wp2_with fail
    refine hK.out _ _ (by with_reducible exact sfRS) fun hH2 => ?_
    clear hK K hH1
    try simp only [pu]
    refine tk 7 82 hH2 ?_
    refine tk 8 90 hH2 ?_
    refine tk 9 91 hH2 ?_
    refine tk 10 92 hH2 ?_
    refine rdy [11, 12] ?_
    refine ad 15 (fun K hK => ?_) ?_
    go_simp
    refine hK.out _ _ (by with_reducible exact sfRSG) fun hH3 => ?_
    clear hK K hH2
    try simp only [pu]
    refine rdy [12] ?_
    refine an 16 fun K hK => ?_
    go_simp
    refine hK.out _ _ (by with_reducible exact sfRSGJ) fun hH4 => ?_
    clear hK K hH3
    try simp only [pu]
    refine rdy [13] ?_
    refine az fun K hK => ?_
    go_simp
    refine hK.out _ _ (by with_reducible exact sfRSGJ1) fun hH5 => ?_
    clear hK K hH4
    try simp only [pu]
    refine rdy [14] ?_
    refine az fun K hK => ?_
    go_simp
    refine hK.out _ _ (by with_reducible exact sfRSGJ2) fun hH6 => ?_
    clear hK K hH5
    try simp only [pu]
    refine tk 15 17 hH6 ?_
    refine dn ?_ _
    rotate_left 1
    refine an 16 fun K hK => ?_
    go_simp
    refine hK.out _ _ (by with_reducible exact sfRSJ) fun hH7 => ?_
    clear hK K hH2
    try simp only [pu]
    refine rdy [11] ?_
    refine an 15 fun K hK => ?_
    go_simp
    refine hK.out _ _ (by with_reducible exact sfRSJG) fun hH8 => ?_
    clear hK K hH7
    try simp only [pu]
    refine rdy [13] ?_
    refine az fun K hK => ?_
    go_simp
    refine hK.out _ _ (by with_reducible exact sfRSJG1) fun hH9 => ?_
    clear hK K hH8
    try simp only [pu]
    refine rdy [14] ?_
    refine az fun K hK => ?_
    go_simp
    refine hK.out _ _ (by with_reducible exact sfRSJG2) fun hH10 => ?_
    clear hK K hH9
    try simp only [pu]
    refine tk 15 17 hH10 ?_
    refine dn ?_ _
    rotate_left 1
    refine ad 15 (fun K hK => ?_) ?_
    go_simp
    refine hK.out _ _ (by with_reducible exact sfRG) fun hH11 => ?_
    clear hK K hH1
    try simp only [pu]
    refine rdy [6, 12] ?_
    refine ad 89 (fun K hK => ?_) ?_
    go_simp; (
     (with_reducible refine (ks2 _).mono ?_)
     rintro e wRGS ⟨ua, ub, rfl, t2⟩
     obtain ⟨A3, n3, rfl, _, _⟩ := own_form t2.own
     obtain ⟨A4, n4, rfl, _, _⟩ := own_form t2.tail.own
     have yRGS := (yR.alloc 32 #[.string ⟨#[]⟩, .int .i64 0, .string ⟨#[]⟩, .int .i64 0, .slice none 0 0, .slice none 0 0, .slice none 0 0]).join t2
     have ltG := (yRGS.tail.tail).blk.lt
     have neG : ¬ (wRGS.heap.size = wR.heap.size) := Nat.ne_of_gt ltG
     have sfRGS := hS _ (yRGS.tail.tail.tail.tail.blk)
     have qRGSJ0 := (yRGS.alloc 23 #[.string ⟨#[]⟩, .int .i64 0, .int .i64 0])
     have sfRGSJ := hS _ (qRGSJ0.tail.tail.tail.tail.tail.blk)
     clear qRGSJ0
     have qRGSJ1 := (((((((((yRGS.pk [2, 0, 1, 3, 4, 5, 6, 7, 8]).set_ 0 (.string ⟨#[108, 111, 103]⟩)).set_ 1 (.int .i64 (m : Int))).set_ 2 (.string ⟨rb.toArray⟩)).set_ 3 (.int .i64 1)).set_ 4 (.slice A3 cB.length n3)).set_ 5 (.slice A4 tB.length n4)).set_ 6 (.slice none 0 0)).alloc 23 #[.string ⟨#[]⟩, .int .i64 0, .int .i64 0])
     have sfRGSJ1 := hS _ (qRGSJ1.tail.tail.tail.tail.tail.blk)
     clear qRGSJ1
     have qRGSJ2 := (((((((((yRGS.pk [2, 0, 1, 3, 4, 5, 6, 7, 8]).set_ 0 (.string ⟨#[108, 111, 103]⟩)).set_ 1 (.int .i64 (m : Int))).set_ 2 (.string ⟨rb.toArray⟩)).set_ 3 (.int .i64 1)).set_ 4 (.slice A3 cB.length n3)).set_ 5 (.slice A4 tB.length n4)).set_ 6 (.slice none 0 0)).alloc 23 #[.string ⟨SR.toArray⟩, .int .i64 1, .int .i64 2])
     have sfRGSJ2 := hS _ (qRGSJ2.tail.tail.tail.tail.tail.blk)
     clear qRGSJ2
     obtain ⟨_, _, _, _, _, _, _, _, _, _, _, _, _, _⟩ := bk7 yRGS.tail.tail.blk); go_wp2_with fail
    refine hK.out _ _ (by with_reducible exact sfRGS) fun hH12 => ?_
    clear hK K hH11
    try simp only [pu]
    refine tk 7 82 hH12 ?_
    refine tk 8 90 hH12 ?_
    refine tk 9 91 hH12 ?_
    refine tk 10 92 hH12 ?_
    refine rdy [12] ?_
    refine an 16 fun K hK => ?_
    go_simp
    refine hK.out _ _ (by with_reducible exact sfRGSJ) fun hH13 => ?_
    clear hK K hH12
    try simp only [pu]
    refine rdy [13] ?_
    refine az fun K hK => ?_
    go_simp
    refine hK.out _ _ (by with_reducible exact sfRGSJ1) fun hH14 => ?_
    clear hK K hH13
    try simp only [pu]
    refine rdy [14] ?_
    refine az fun K hK => ?_
    go_simp
    refine hK.out _ _ (by with_reducible exact sfRGSJ2) fun hH15 => ?_
    clear hK K hH14
    try simp only [pu]
    refine tk 15 17 hH15 ?_
    refine dn ?_ _
    rotate_left 1
    refine an 16 fun K hK => ?_
    go_simp
    refine hK.out _ _ (by with_reducible exact sfRGJ) fun hH16 => ?_
    clear hK K hH11
    try simp only [pu]
    refine rdy [6] ?_
    refine an 89 fun K hK => ?_
    go_simp; (
     (with_reducible refine (ks2 _).mono ?_)
     rintro e wRGJS ⟨ua, ub, rfl, t2⟩
     obtain ⟨A3, n3, rfl, _, _⟩ := own_form t2.own
     obtain ⟨A4, n4, rfl, _, _⟩ := own_form t2.tail.own
     have yRGJS := ((yR.alloc 32 #[.string ⟨#[]⟩, .int .i64 0, .string ⟨#[]⟩, .int .i64 0, .slice none 0 0, .slice none 0 0, .slice none 0 0]).alloc 23 #[.string ⟨#[]⟩, .int .i64 0, .int .i64 0]).join t2
     try simp only [World.size_alloc] at yRGJS
     have ltG := (yRGJS.tail.tail.tail).blk.lt
     have neG : ¬ (wRGJS.heap.size = wR.heap.size) := Nat.ne_of_gt ltG
     have ltJ := (yRGJS.tail.tail).blk.lt
     have neJ : ¬ (wRGJS.heap.size = wR.heap.size + 1) := Nat.ne_of_gt ltJ
     have ltGJ : wR.heap.size < wR.heap.size + 1 := by first | exact ((yR.alloc 32 #[.string ⟨#[]⟩, .int .i64 0, .string ⟨#[]⟩, .int .i64 0, .slice none 0 0, .slice none 0 0, .slice none 0 0])).blk.lt | (have := ((yR.alloc 32 #[.string ⟨#[]⟩, .int .i64 0, .string ⟨#[]⟩, .int .i64 0, .slice none 0 0, .slice none 0 0, .slice none 0 0])).blk.lt; simp only [World.size_alloc] at this; exact this) | (have := ((yR.alloc 32 #[.string ⟨#[]⟩, .int .i64 0, .string ⟨#[]⟩, .int .i64 0, .slice none 0 0, .slice none 0 0, .slice none 0 0])).blk.lt; simp only [World.size_drew, World.size_alloc] at this; exact this)
     have neGJ : ¬ (wR.heap.size = wR.heap.size + 1) := Nat.ne_of_lt ltGJ
     have neJG : ¬ (wR.heap.size + 1 = wR.heap.size) := Nat.ne_of_gt ltGJ
     have sfRGJS := hS _ (yRGJS.tail.tail.tail.tail.tail.blk)
     have qRGJS1 := ((((((((yRGJS.pk [3, 0, 1, 2, 4, 5, 6, 7, 8, 9]).set_ 0 (.string ⟨#[108, 111, 103]⟩)).set_ 1 (.int .i64 (m : Int))).set_ 2 (.string ⟨rb.toArray⟩)).set_ 3 (.int .i64 1)).set_ 4 (.slice A3 cB.length n3)).set_ 5 (.slice A4 tB.length n4)).set_ 6 (.slice none 0 0))
     have sfRGJS1 := hS _ (qRGJS1.tail.tail.tail.tail.tail.blk)
     clear qRGJS1
     have qRGJS2 := ((((((((((((yRGJS.pk [3, 0, 1, 2, 4, 5, 6, 7, 8, 9]).set_ 0 (.string ⟨#[108, 111, 103]⟩)).set_ 1 (.int .i64 (m : Int))).set_ 2 (.string ⟨rb.toArray⟩)).set_ 3 (.int .i64 1)).set_ 4 (.slice A3 cB.length n3)).set_ 5 (.slice A4 tB.length n4)).set_ 6 (.slice none 0 0)).pk [3, 0, 1, 2, 4, 5, 6, 7, 8, 9]).set_ 0 (.string ⟨SR.toArray⟩)).set_ 1 (.int .i64 1)).set_ 2 (.int .i64 2))
     have sfRGJS2 := hS _ (qRGJS2.tail.tail.tail.tail.tail.blk)
     clear qRGJS2
     obtain ⟨_, _, _, _, _, _, _, _, _, _, _, _, _, _⟩ := bk7 yRGJS.tail.tail.tail.blk
     obtain ⟨_, _, _, _, _, _⟩ := bk3 yRGJS.tail.tail.blk); go_wp2_with fail
    refine hK.out _ _ (by with_reducible exact sfRGJS) fun hH17 => ?_
    clear hK K hH16
    try simp only [pu]
    refine tk 7 82 hH17 ?_
    refine tk 8 90 hH17 ?_
    refine tk 9 91 hH17 ?_
    refine tk 10 92 hH17 ?_
    refine rdy [13] ?_
    refine az fun K hK => ?_
    go_simp
    refine hK.out _ _ (by with_reducible exact sfRGJS1) fun hH18 => ?_
    clear hK K hH17
    try simp only [pu]
    refine rdy [14] ?_
    refine az fun K hK => ?_
    go_simp
    refine hK.out _ _ (by with_reducible exact sfRGJS2) fun hH19 => ?_
    clear hK K hH18
    try simp only [pu]
    refine tk 15 17 hH19 ?_
    refine dn ?_ _
    rotate_left 1
    refine an 16 fun K hK => ?_
    go_simp
    refine hK.out _ _ (by with_reducible exact sfRJ) fun hH20 => ?_
    clear hK K hH1
    try simp only [pu]
    refine rdy [6, 11] ?_
    refine ad 89 (fun K hK => ?_) ?_
    go_simp; (
     (with_reducible refine (ks2 _).mono ?_)
     rintro e wRJS ⟨ua, ub, rfl, t2⟩
     obtain ⟨A3, n3, rfl, _, _⟩ := own_form t2.own
     obtain ⟨A4, n4, rfl, _, _⟩ := own_form t2.tail.own
     have yRJS := (yR.alloc 23 #[.string ⟨#[]⟩, .int .i64 0, .int .i64 0]).join t2
     have ltJ := (yRJS.tail.tail).blk.lt
     have neJ : ¬ (wRJS.heap.size = wR.heap.size) := Nat.ne_of_gt ltJ
     have sfRJS := hS _ (yRJS.tail.tail.tail.tail.blk)
     have qRJSG0 := (yRJS.alloc 32 #[.string ⟨#[]⟩, .int .i64 0, .string ⟨#[]⟩, .int .i64 0, .slice none 0 0, .slice none 0 0, .slice none 0 0])
     have sfRJSG := hS _ (qRJSG0.tail.tail.tail.tail.tail.blk)
     clear qRJSG0
     have qRJSG1 := (yRJS.alloc 32 #[.string ⟨#[108, 111, 103]⟩, .int .i64 (m : Int), .string ⟨rb.toArray⟩, .int .i64 1, .slice A3 cB.length n3, .slice A4 tB.length n4, .slice none 0 0])
     have sfRJSG1 := hS _ (qRJSG1.tail.tail.tail.tail.tail.blk)
     clear qRJSG1
     have qRJSG2 := (((((yRJS.pk [2, 0, 1, 3, 4, 5, 6, 7, 8]).set_ 0 (.string ⟨SR.toArray⟩)).set_ 1 (.int .i64 1)).set_ 2 (.int .i64 2)).alloc 32 #[.string ⟨#[108, 111, 103]⟩, .int .i64 (m : Int), .string ⟨rb.toArray⟩, .int .i64 1, .slice A3 cB.length n3, .slice A4 tB.length n4, .slice none 0 0])
     have sfRJSG2 := hS _ (qRJSG2.tail.tail.tail.tail.tail.blk)
     clear qRJSG2
     obtain ⟨_, _, _, _, _, _⟩ := bk3 yRJS.tail.tail.blk); go_wp2_with fail
    refine hK.out _ _ (by with_reducible exact sfRJS) fun hH21 => ?_
    clear hK K hH20
    try simp only [pu]
    refine tk 7 82 hH21 ?_
    refine tk 8 90 hH21 ?_
    refine tk 9 91 hH21 ?_
    refine tk 10 92 hH21 ?_
    refine rdy [11] ?_
    refine an 15 fun K hK => ?_
    go_simp
    refine hK.out _ _ (by with_reducible exact sfRJSG) fun hH22 => ?_
    clear hK K hH21
    try simp only [pu]
    refine rdy [13] ?_
    refine az fun K hK => ?_
    go_simp
    refine hK.out _ _ (by with_reducible exact sfRJSG1) fun hH23 => ?_
    clear hK K hH22
    try simp only [pu]
    refine rdy [14] ?_
    refine az fun K hK => ?_
    go_simp
    refine hK.out _ _ (by with_reducible exact sfRJSG2) fun hH24 => ?_
    clear hK K hH23
    try simp only [pu]
    refine tk 15 17 hH24 ?_
    refine dn ?_ _
    rotate_left 1
    refine an 15 fun K hK => ?_
    go_simp
    refine hK.out _ _ (by with_reducible exact sfRJG) fun hH25 => ?_
    clear hK K hH20
    try simp only [pu]
    refine rdy [6] ?_
    refine an 89 fun K hK => ?_
    go_simp; (
     (with_reducible refine (ks2 _).mono ?_)
     rintro e wRJGS ⟨ua, ub, rfl, t2⟩
     obtain ⟨A3, n3, rfl, _, _⟩ := own_form t2.own
     obtain ⟨A4, n4, rfl, _, _⟩ := own_form t2.tail.own
     have yRJGS := ((yR.alloc 23 #[.string ⟨#[]⟩, .int .i64 0, .int .i64 0]).alloc 32 #[.string ⟨#[]⟩, .int .i64 0, .string ⟨#[]⟩, .int .i64 0, .slice none 0 0, .slice none 0 0, .slice none 0 0]).join t2
     try simp only [World.size_alloc] at yRJGS
     have ltG := (yRJGS.tail.tail).blk.lt
     have neG : ¬ (wRJGS.heap.size = wR.heap.size + 1) := Nat.ne_of_gt ltG
     have ltJ := (yRJGS.tail.tail.tail).blk.lt
     have neJ : ¬ (wRJGS.heap.size = wR.heap.size) := Nat.ne_of_gt ltJ
     have ltJG : wR.heap.size < wR.heap.size + 1 := by first | exact ((yR.alloc 23 #[.string ⟨#[]⟩, .int .i64 0, .int .i64 0])).blk.lt | (have := ((yR.alloc 23 #[.string ⟨#[]⟩, .int .i64 0, .int .i64 0])).blk.lt; simp only [World.size_alloc] at this; exact this) | (have := ((yR.alloc 23 #[.string ⟨#[]⟩, .int .i64 0, .int .i64 0])).blk.lt; simp only [World.size_drew, World.size_alloc] at this; exact this)
     have neJG : ¬ (wR.heap.size = wR.heap.size + 1) := Nat.ne_of_lt ltJG
     have neGJ : ¬ (wR.heap.size + 1 = wR.heap.size) := Nat.ne_of_gt ltJG
     have sfRJGS := hS _ (yRJGS.tail.tail.tail.tail.tail.blk)
     have qRJGS1 := ((((((((yRJGS.pk [2, 0, 1, 3, 4, 5, 6, 7, 8, 9]).set_ 0 (.string ⟨#[108, 111, 103]⟩)).set_ 1 (.int .i64 (m : Int))).set_ 2 (.string ⟨rb.toArray⟩)).set_ 3 (.int .i64 1)).set_ 4 (.slice A3 cB.length n3)).set_ 5 (.slice A4 tB.length n4)).set_ 6 (.slice none 0 0))
     have sfRJGS1 := hS _ (qRJGS1.tail.tail.tail.tail.tail.blk)
     clear qRJGS1
     have qRJGS2 := ((((((((((((yRJGS.pk [2, 0, 1, 3, 4, 5, 6, 7, 8, 9]).set_ 0 (.string ⟨#[108, 111, 103]⟩)).set_ 1 (.int .i64 (m : Int))).set_ 2 (.string ⟨rb.toArray⟩)).set_ 3 (.int .i64 1)).set_ 4 (.slice A3 cB.length n3)).set_ 5 (.slice A4 tB.length n4)).set_ 6 (.slice none 0 0)).pk [3, 0, 1, 2, 4, 5, 6, 7, 8, 9]).set_ 0 (.string ⟨SR.toArray⟩)).set_ 1 (.int .i64 1)).set_ 2 (.int .i64 2))
     have sfRJGS2 := hS _ (qRJGS2.tail.tail.tail.tail.tail.blk)
     clear qRJGS2
     obtain ⟨_, _, _, _, _, _, _, _, _, _, _, _, _, _⟩ := bk7 yRJGS.tail.tail.blk
     obtain ⟨_, _, _, _, _, _⟩ := bk3 yRJGS.tail.tail.tail.blk); go_wp2_with fail
    refine hK.out _ _ (by with_reducible exact sfRJGS) fun hH26 => ?_
    clear hK K hH25
    try simp only [pu]
    refine tk 7 82 hH26 ?_
    refine tk 8 90 hH26 ?_
    refine tk 9 91 hH26 ?_
    refine tk 10 92 hH26 ?_
    refine rdy [13] ?_
    refine az fun K hK => ?_
    go_simp
    refine hK.out _ _ (by with_reducible exact sfRJGS1) fun hH27 => ?_
    clear hK K hH26
    try simp only [pu]
    refine rdy [14] ?_
    refine az fun K hK => ?_
    go_simp
    refine hK.out _ _ (by with_reducible exact sfRJGS2) fun hH28 => ?_
    clear hK K hH27
    try simp only [pu]
    refine tk 15 17 hH28 ?_
    refine dn ?_ _
    rotate_left 1
    refine ad 15 (fun K hK => ?_) ?_
    go_simp
    refine hK.out _ _ (by with_reducible exact sfG) fun hH29 => ?_
    clear hK K hH0
    try simp only [pu]
    refine rdy [4, 12] ?_
    refine ad 87 (fun K hK => ?_) ?_
    go_simp; (
     (with_reducible refine (kRM _ _ _ (Rd.of_own ((y7.alloc 32 #[.string ⟨#[]⟩, .int .i64 0, .string ⟨#[]⟩, .int .i64 0, .slice none 0 0, .slice none 0 0, .slice none 0 0]).drew.tail.tail.tail.tail.tail.own)) hc2 hm2).mono ?_)
     rintro e wGR ⟨rfl, bR⟩
     have yGR := (y7.alloc 32 #[.string ⟨#[]⟩, .int .i64 0, .string ⟨#[]⟩, .int .i64 0, .slice none 0 0, .slice none 0 0, .slice none 0 0]).drew.under bR
     have sfGR := hS _ (yGR.tail.tail.blk)
     have qGRJ0 := (yGR.alloc 23 #[.string ⟨#[]⟩, .int .i64 0, .int .i64 0])
     have sfGRJ := hS _ (qGRJ0.tail.tail.tail.blk)
     clear qGRJ0); go_wp2_with fail
    refine hK.out _ _ (by with_reducible exact sfGR) fun hH30 => ?_
    clear hK K hH29
    try simp only [pu]
    refine tk 5 88 hH30 ?_
    refine rdy [6, 12] ?_
    refine ad 89 (fun K hK => ?_) ?_
    go_simp; (
     (with_reducible refine (ks2 _).mono ?_)
     rintro e wGRS ⟨ua, ub, rfl, t2⟩
     obtain ⟨A3, n3, rfl, _, _⟩ := own_form t2.own
     obtain ⟨A4, n4, rfl, _, _⟩ := own_form t2.tail.own
     have yGRS := yGR.join t2
     have ltG := (yGRS.tail.tail).blk.lt
     have neG : ¬ (wGRS.heap.size = w7.heap.size) := Nat.ne_of_gt ltG
     have sfGRS := hS _ (yGRS.tail.tail.tail.tail.blk)
     have qGRSJ0 := (yGRS.alloc 23 #[.string ⟨#[]⟩, .int .i64 0, .int .i64 0])
     have sfGRSJ := hS _ (qGRSJ0.tail.tail.tail.tail.tail.blk)
     clear qGRSJ0
     have qGRSJ1 := (((((((((yGRS.pk [2, 0, 1, 3, 4, 5, 6, 7, 8]).set_ 0 (.string ⟨#[108, 111, 103]⟩)).set_ 1 (.int .i64 (m : Int))).set_ 2 (.string ⟨rb.toArray⟩)).set_ 3 (.int .i64 1)).set_ 4 (.slice A3 cB.length n3)).set_ 5 (.slice A4 tB.length n4)).set_ 6 (.slice none 0 0)).alloc 23 #[.string ⟨#[]⟩, .int .i64 0, .int .i64 0])
     have sfGRSJ1 := hS _ (qGRSJ1.tail.tail.tail.tail.tail.blk)
     clear qGRSJ1
     have qGRSJ2 := (((((((((yGRS.pk [2, 0, 1, 3, 4, 5, 6, 7, 8]).set_ 0 (.string ⟨#[108, 111, 103]⟩)).set_ 1 (.int .i64 (m : Int))).set_ 2 (.string ⟨rb.toArray⟩)).set_ 3 (.int .i64 1)).set_ 4 (.slice A3 cB.length n3)).set_ 5 (.slice A4 tB.length n4)).set_ 6 (.slice none 0 0)).alloc 23 #[.string ⟨SR.toArray⟩, .int .i64 1, .int .i64 2])
     have sfGRSJ2 := hS _ (qGRSJ2.tail.tail.tail.tail.tail.blk)
     clear qGRSJ2
     obtain ⟨_, _, _, _, _, _, _, _, _, _, _, _, _, _⟩ := bk7 yGRS.tail.tail.blk); go_wp2_with fail
    refine hK.out _ _ (by with_reducible exact sfGRS) fun hH31 => ?_
    clear hK K hH30
    try simp only [pu]
    refine tk 7 82 hH31 ?_
    refine tk 8 90 hH31 ?_
    refine tk 9 91 hH31 ?_
    refine tk 10 92 hH31 ?_
    refine rdy [12] ?_
    refine an 16 fun K hK => ?_
    go_simp
    refine hK.out _ _ (by with_reducible exact sfGRSJ) fun hH32 => ?_
    clear hK K hH31
    try simp only [pu]
    refine rdy [13] ?_
    refine az fun K hK => ?_
    go_simp
    refine hK.out _ _ (by with_reducible exact sfGRSJ1) fun hH33 => ?_
    clear hK K hH32
    try simp only [pu]
    refine rdy [14] ?_
    refine az fun K hK => ?_
    go_simp
    refine hK.out _ _ (by with_reducible exact sfGRSJ2) fun hH34 => ?_
    clear hK K hH33
    try simp only [pu]
    refine tk 15 17 hH34 ?_
    refine dn ?_ _
    rotate_left 1
    refine an 16 fun K hK => ?_
    go_simp
    refine hK.out _ _ (by with_reducible exact sfGRJ) fun hH35 => ?_
    clear hK K hH30
    try simp only [pu]
    refine rdy [6] ?_
    refine an 89 fun K hK => ?_
    go_simp; (
     (with_reducible refine (ks2 _).mono ?_)
     rintro e wGRJS ⟨ua, ub, rfl, t2⟩
     obtain ⟨A3, n3, rfl, _, _⟩ := own_form t2.own
     obtain ⟨A4, n4, rfl, _, _⟩ := own_form t2.tail.own
     have yGRJS := (yGR.alloc 23 #[.string ⟨#[]⟩, .int .i64 0, .int .i64 0]).join t2
     try simp only [World.size_alloc] at yGRJS
     have ltG := (yGRJS.tail.tail.tail).blk.lt
     have neG : ¬ (wGRJS.heap.size = w7.heap.size) := Nat.ne_of_gt ltG
     have ltJ := (yGRJS.tail.tail).blk.lt
     have neJ : ¬ (wGRJS.heap.size = wGR.heap.size) := Nat.ne_of_gt ltJ
     have ltGJ : w7.heap.size < wGR.heap.size := by first | exact (yGR).blk.lt | (have := (yGR).blk.lt; simp only [World.size_alloc] at this; exact this) | (have := (yGR).blk.lt; simp only [World.size_drew, World.size_alloc] at this; exact this)
     have neGJ : ¬ (w7.heap.size = wGR.heap.size) := Nat.ne_of_lt ltGJ
     have neJG : ¬ (wGR.heap.size = w7.heap.size) := Nat.ne_of_gt ltGJ
     have sfGRJS := hS _ (yGRJS.tail.tail.tail.tail.tail.blk)
     have qGRJS1 := ((((((((yGRJS.pk [3, 0, 1, 2, 4, 5, 6, 7, 8, 9]).set_ 0 (.string ⟨#[108, 111, 103]⟩)).set_ 1 (.int .i64 (m : Int))).set_ 2 (.string ⟨rb.toArray⟩)).set_ 3 (.int .i64 1)).set_ 4 (.slice A3 cB.length n3)).set_ 5 (.slice A4 tB.length n4)).set_ 6 (.slice none 0 0))
     have sfGRJS1 := hS _ (qGRJS1.tail.tail.tail.tail.tail.blk)
     clear qGRJS1
     have qGRJS2 := ((((((((((((yGRJS.pk [3, 0, 1, 2, 4, 5, 6, 7, 8, 9]).set_ 0 (.string ⟨#[108, 111, 103]⟩)).set_ 1 (.int .i64 (m : Int))).set_ 2 (.string ⟨rb.toArray⟩)).set_ 3 (.int .i64 1)).set_ 4 (.slice A3 cB.length n3)).set_ 5 (.slice A4 tB.length n4)).set_ 6 (.slice none 0 0)).pk [3, 0, 1, 2, 4, 5, 6, 7, 8, 9]).set_ 0 (.string ⟨SR.toArray⟩)).set_ 1 (.int .i64 1)).set_ 2 (.int .i64 2))
     have sfGRJS2 := hS _ (qGRJS2.tail.tail.tail.tail.tail.blk)
     clear qGRJS2
     obtain ⟨_, _, _, _, _, _, _, _, _, _, _, _, _, _⟩ := bk7 yGRJS.tail.tail.tail.blk
     obtain ⟨_, _, _, _, _, _⟩ := bk3 yGRJS.tail.tail.blk); go_wp2_with fail
    refine hK.out _ _ (by with_reducible exact sfGRJS) fun hH36 => ?_
    clear hK K hH35
    try simp only [pu]
    refine tk 7 82 hH36 ?_
    refine tk 8 90 hH36 ?_
    refine tk 9 91 hH36 ?_
    refine tk 10 92 hH36 ?_
    refine rdy [13] ?_
    refine az fun K hK => ?_
    go_simp
    refine hK.out _ _ (by with_reducible exact sfGRJS1) fun hH37 => ?_
    clear hK K hH36
    try simp only [pu]
    refine rdy [14] ?_
    refine az fun K hK => ?_
    go_simp
    refine hK.out _ _ (by with_reducible exact sfGRJS2) fun hH38 => ?_
    clear hK K hH37
    try simp only [pu]
    refine tk 15 17 hH38 ?_
    refine dn ?_ _
    rotate_left 1
    refine an 16 fun K hK => ?_
    go_simp
    refine hK.out _ _ (by with_reducible exact sfGJ) fun hH39 => ?_
    clear hK K hH29
    try simp only [pu]
    refine rdy [4] ?_
    refine an 87 fun K hK => ?_
    go_simp; (
     (with_reducible refine (kRM _ _ _ (Rd.of_own (((y7.alloc 32 #[.string ⟨#[]⟩, .int .i64 0, .string ⟨#[]⟩, .int .i64 0, .slice none 0 0, .slice none 0 0, .slice none 0 0]).alloc 23 #[.string ⟨#[]⟩, .int .i64 0, .int .i64 0]).drew.tail.tail.tail.tail.tail.tail.own)) hc2 hm2).mono ?_)
     rintro e wGJR ⟨rfl, bR⟩
     have yGJR := ((y7.alloc 32 #[.string ⟨#[]⟩, .int .i64 0, .string ⟨#[]⟩, .int .i64 0, .slice none 0 0, .slice none 0 0, .slice none 0 0]).alloc 23 #[.string ⟨#[]⟩, .int .i64 0, .int .i64 0]).drew.under bR
     try simp only [World.size_alloc] at yGJR
     have sfGJR := hS _ (yGJR.tail.tail.tail.blk)); go_wp2_with fail
    refine hK.out _ _ (by with_reducible exact sfGJR) fun hH40 => ?_
    clear hK K hH39
    try simp only [pu]
    refine tk 5 88 hH40 ?_
    refine rdy [6] ?_
    refine an 89 fun K hK => ?_
    go_simp; (
     (with_reducible refine (ks2 _).mono ?_)
     rintro e wGJRS ⟨ua, ub, rfl, t2⟩
     obtain ⟨A3, n3, rfl, _, _⟩ := own_form t2.own
     obtain ⟨A4, n4, rfl, _, _⟩ := own_form t2.tail.own
     have yGJRS := yGJR.join t2
     try simp only [World.size_alloc] at yGJRS
     have ltG := (yGJRS.tail.tail.tail).blk.lt
     have neG : ¬ (wGJRS.heap.size = w7.heap.size) := Nat.ne_of_gt ltG
     have ltJ := (yGJRS.tail.tail).blk.lt
     have neJ : ¬ (wGJRS.heap.size = w7.heap.size + 1) := Nat.ne_of_gt ltJ
     have ltGJ : w7.heap.size < w7.heap.size + 1 := by first | exact ((y7.alloc 32 #[.string ⟨#[]⟩, .int .i64 0, .string ⟨#[]⟩, .int .i64 0, .slice none 0 0, .slice none 0 0, .slice none 0 0]).drew).blk.lt | (have := ((y7.alloc 32 #[.string ⟨#[]⟩, .int .i64 0, .string ⟨#[]⟩, .int .i64 0, .slice none 0 0, .slice none 0 0, .slice none 0 0]).drew).blk.lt; simp only [World.size_alloc] at this; exact this) | (have := ((y7.alloc 32 #[.string ⟨#[]⟩, .int .i64 0, .string ⟨#[]⟩, .int .i64 0, .slice none 0 0, .slice none 0 0, .slice none 0 0]).drew).blk.lt; simp only [World.size_drew, World.size_alloc] at this; exact this)
     have neGJ : ¬ (w7.heap.size = w7.heap.size + 1) := Nat.ne_of_lt ltGJ
     have neJG : ¬ (w7.heap.size + 1 = w7.heap.size) := Nat.ne_of_gt ltGJ
     have sfGJRS := hS _ (yGJRS.tail.tail.tail.tail.tail.blk)
     have qGJRS1 := ((((((((yGJRS.pk [3, 0, 1, 2, 4, 5, 6, 7, 8, 9]).set_ 0 (.string ⟨#[108, 111, 103]⟩)).set_ 1 (.int .i64 (m : Int))).set_ 2 (.string ⟨rb.toArray⟩)).set_ 3 (.int .i64 1)).set_ 4 (.slice A3 cB.length n3)).set_ 5 (.slice A4 tB.length n4)).set_ 6 (.slice none 0 0))
     have sfGJRS1 := hS _ (qGJRS1.tail.tail.tail.tail.tail.blk)
     clear qGJRS1
     have qGJRS2 := ((((((((((((yGJRS.pk [3, 0, 1, 2, 4, 5, 6, 7, 8, 9]).set_ 0 (.string ⟨#[108, 111, 103]⟩)).set_ 1 (.int .i64 (m : Int))).set_ 2 (.string ⟨rb.toArray⟩)).set_ 3 (.int .i64 1)).set_ 4 (.slice A3 cB.length n3)).set_ 5 (.slice A4 tB.length n4)).set_ 6 (.slice none 0 0)).pk [3, 0, 1, 2, 4, 5, 6, 7, 8, 9]).set_ 0 (.string ⟨SR.toArray⟩)).set_ 1 (.int .i64 1)).set_ 2 (.int .i64 2))
     have sfGJRS2 := hS _ (qGJRS2.tail.tail.tail.tail.tail.blk)
     clear qGJRS2
     obtain ⟨_, _, _, _, _, _, _, _, _, _, _, _, _, _⟩ := bk7 yGJRS.tail.tail.tail.blk
     obtain ⟨_, _, _, _, _, _⟩ := bk3 yGJRS.tail.tail.blk); go_wp2_with fail
    refine hK.out _ _ (by with_reducible exact sfGJRS) fun hH41 => ?_
    clear hK K hH40
    try simp only [pu]
    refine tk 7 82 hH41 ?_
    refine tk 8 90 hH41 ?_
    refine tk 9 91 hH41 ?_
    refine tk 10 92 hH41 ?_
    refine rdy [13] ?_
    refine az fun K hK => ?_
    go_simp
    refine hK.out _ _ (by with_reducible exact sfGJRS1) fun hH42 => ?_
    clear hK K hH41
    try simp only [pu]
    refine rdy [14] ?_
    refine az fun K hK => ?_
    go_simp
    refine hK.out _ _ (by with_reducible exact sfGJRS2) fun hH43 => ?_
    clear hK K hH42
    try simp only [pu]
    refine tk 15 17 hH43 ?_
    refine dn ?_ _
    rotate_left 1
    refine an 16 fun K hK => ?_
    go_simp
    refine hK.out _ _ (by with_reducible exact sfJ) fun hH44 => ?_
    clear hK K hH0
    try simp only [pu]
    refine rdy [4, 11] ?_
    refine ad 87 (fun K hK => ?_) ?_
    go_simp; (
     (with_reducible refine (kRM _ _ _ (Rd.of_own ((y7.alloc 23 #[.string ⟨#[]⟩, .int .i64 0, .int .i64 0]).drew.tail.tail.tail.tail.tail.own)) hc2 hm2).mono ?_)
     rintro e wJR ⟨rfl, bR⟩
     have yJR := (y7.alloc 23 #[.string ⟨#[]⟩, .int .i64 0, .int .i64 0]).drew.under bR
     have sfJR := hS _ (yJR.tail.tail.blk)
     have qJRG0 := (yJR.alloc 32 #[.string ⟨#[]⟩, .int .i64 0, .string ⟨#[]⟩, .int .i64 0, .slice none 0 0, .slice none 0 0, .slice none 0 0])
     have sfJRG := hS _ (qJRG0.tail.tail.tail.blk)
     clear qJRG0); go_wp2_with fail
    refine hK.out _ _ (by with_reducible exact sfJR) fun hH45 => ?_
    clear hK K hH44
    try simp only [pu]
    refine tk 5 88 hH45 ?_
    refine rdy [6, 11] ?_
    refine ad 89 (fun K hK => ?_) ?_
    go_simp; (
     (with_reducible refine (ks2 _).mono ?_)
     rintro e wJRS ⟨ua, ub, rfl, t2⟩
     obtain ⟨A3, n3, rfl, _, _⟩ := own_form t2.own
     obtain ⟨A4, n4, rfl, _, _⟩ := own_form t2.tail.own
     have yJRS := yJR.join t2
     have ltJ := (yJRS.tail.tail).blk.lt
     have neJ : ¬ (wJRS.heap.size = w7.heap.size) := Nat.ne_of_gt ltJ
     have sfJRS := hS _ (yJRS.tail.tail.tail.tail.blk)
     have qJRSG0 := (yJRS.alloc 32 #[.string ⟨#[]⟩, .int .i64 0, .string ⟨#[]⟩, .int .i64 0, .slice none 0 0, .slice none 0 0, .slice none 0 0])
     have sfJRSG := hS _ (qJRSG0.tail.tail.tail.tail.tail.blk)
     clear qJRSG0
     have qJRSG1 := (yJRS.alloc 32 #[.string ⟨#[108, 111, 103]⟩, .int .i64 (m : Int), .string ⟨rb.toArray⟩, .int .i64 1, .slice A3 cB.length n3, .slice A4 tB.length n4, .slice none 0 0])
     have sfJRSG1 := hS _ (qJRSG1.tail.tail.tail.tail.tail.blk)
     clear qJRSG1
     have qJRSG2 := (((((yJRS.pk [2, 0, 1, 3, 4, 5, 6, 7, 8]).set_ 0 (.string ⟨SR.toArray⟩)).set_ 1 (.int .i64 1)).set_ 2 (.int .i64 2)).alloc 32 #[.string ⟨#[108, 111, 103]⟩, .int .i64 (m : Int), .string ⟨rb.toArray⟩, .int .i64 1, .slice A3 cB.length n3, .slice A4 tB.length n4, .slice none 0 0])
     have sfJRSG2 := hS _ (qJRSG2.tail.tail.tail.tail.tail.blk)
     clear qJRSG2
     obtain ⟨_, _, _, _, _, _⟩ := bk3 yJRS.tail.tail.blk); go_wp2_with fail
    refine hK.out _ _ (by with_reducible exact sfJRS) fun hH46 => ?_
    clear hK K hH45
    try simp only [pu]
    refine tk 7 82 hH46 ?_
    refine tk 8 90 hH46 ?_
    refine tk 9 91 hH46 ?_
    refine tk 10 92 hH46 ?_
    refine rdy [11] ?_
    refine an 15 fun K hK => ?_
    go_simp
    refine hK.out _ _ (by with_reducible exact sfJRSG) fun hH47 => ?_
    clear hK K hH46
    try simp only [pu]
    refine rdy [13] ?_
    refine az fun K hK => ?_
    go_simp
    refine hK.out _ _ (by with_reducible exact sfJRSG1) fun hH48 => ?_
    clear hK K hH47
    try simp only [pu]
    refine rdy [14] ?_
    refine az fun K hK => ?_
    go_simp
    refine hK.out _ _ (by with_reducible exact sfJRSG2) fun hH49 => ?_
    clear hK K hH48
    try simp only [pu]
    refine tk 15 17 hH49 ?_
    refine dn ?_ _
    rotate_left 1
    refine an 15 fun K hK => ?_
    go_simp
    refine hK.out _ _ (by with_reducible exact sfJRG) fun hH50 => ?_
    clear hK K hH45
    try simp only [pu]
    refine rdy [6] ?_
    refine an 89 fun K hK => ?_
    go_simp; (
     (with_reducible refine (ks2 _).mono ?_)
     rintro e wJRGS ⟨ua, ub, rfl, t2⟩
     obtain ⟨A3, n3, rfl, _, _⟩ := own_form t2.own
     obtain ⟨A4, n4, rfl, _, _⟩ := own_form t2.tail.own
     have yJRGS := (yJR.alloc 32 #[.string ⟨#[]⟩, .int .i64 0, .string ⟨#[]⟩, .int .i64 0, .slice none 0 0, .slice none 0 0, .slice none 0 0]).join t2
     try simp only [World.size_alloc] at yJRGS
     have ltG := (yJRGS.tail.tail).blk.lt
     have neG : ¬ (wJRGS.heap.size = wJR.heap.size) := Nat.ne_of_gt ltG
     have ltJ := (yJRGS.tail.tail.tail).blk.lt
     have neJ : ¬ (wJRGS.heap.size = w7.heap.size) := Nat.ne_of_gt ltJ
     have ltJG : w7.heap.size < wJR.heap.size := by first | exact (yJR).blk.lt | (have := (yJR).blk.lt; simp only [World.size_alloc] at this; exact this) | (have := (yJR).blk.lt; simp only [World.size_drew, World.size_alloc] at this; exact this)
     have neJG : ¬ (w7.heap.size = wJR.heap.size) := Nat.ne_of_lt ltJG
     have neGJ : ¬ (wJR.heap.size = w7.heap.size) := Nat.ne_of_gt ltJG
     have sfJRGS := hS _ (yJRGS.tail.tail.tail.tail.tail.blk)
     have qJRGS1 := ((((((((yJRGS.pk [2, 0, 1, 3, 4, 5, 6, 7, 8, 9]).set_ 0 (.string ⟨#[108, 111, 103]⟩)).set_ 1 (.int .i64 (m : Int))).set_ 2 (.string ⟨rb.toArray⟩)).set_ 3 (.int .i64 1)).set_ 4 (.slice A3 cB.length n3)).set_ 5 (.slice A4 tB.length n4)).set_ 6 (.slice none 0 0))
     have sfJRGS1 := hS _ (qJRGS1.tail.tail.tail.tail.tail.blk)
     clear qJRGS1
     have qJRGS2 := ((((((((((((yJRGS.pk [2, 0, 1, 3, 4, 5, 6, 7, 8, 9]).set_ 0 (.string ⟨#[108, 111, 103]⟩)).set_ 1 (.int .i64 (m : Int))).set_ 2 (.string ⟨rb.toArray⟩)).set_ 3 (.int .i64 1)).set_ 4 (.slice A3 cB.length n3)).set_ 5 (.slice A4 tB.length n4)).set_ 6 (.slice none 0 0)).pk [3, 0, 1, 2, 4, 5, 6, 7, 8, 9]).set_ 0 (.string ⟨SR.toArray⟩)).set_ 1 (.int .i64 1)).set_ 2 (.int .i64 2))
     have sfJRGS2 := hS _ (qJRGS2.tail.tail.tail.tail.tail.blk)
     clear qJRGS2
     obtain ⟨_, _, _, _, _, _, _, _, _, _, _, _, _, _⟩ := bk7 yJRGS.tail.tail.blk
     obtain ⟨_, _, _, _, _, _⟩ := bk3 yJRGS.tail.tail.tail.blk); go_wp2_with fail
    refine hK.out _ _ (by with_reducible exact sfJRGS) fun hH51 => ?_
    clear hK K hH50
    try simp only [pu]
    refine tk 7 82 hH51 ?_
    refine tk 8 90 hH51 ?_
    refine tk 9 91 hH51 ?_
    refine tk 10 92 hH51 ?_
    refine rdy [13] ?_
    refine az fun K hK => ?_
    go_simp
    refine hK.out _ _ (by with_reducible exact sfJRGS1) fun hH52 => ?_
    clear hK K hH51
    try simp only [pu]
    refine rdy [14] ?_
    refine az fun K hK => ?_
    go_simp
    refine hK.out _ _ (by with_reducible exact sfJRGS2) fun hH53 => ?_
    clear hK K hH52
    try simp only [pu]
    refine tk 15 17 hH53 ?_
    refine dn ?_ _
    rotate_left 1
    refine an 15 fun K hK => ?_
    go_simp
    refine hK.out _ _ (by with_reducible exact sfJG) fun hH54 => ?_
    clear hK K hH44
    try simp only [pu]
    refine rdy [4] ?_
    refine an 87 fun K hK => ?_
    go_simp; (
     (with_reducible refine (kRM _ _ _ (Rd.of_own (((y7.alloc 23 #[.string ⟨#[]⟩, .int .i64 0, .int .i64 0]).alloc 32 #[.string ⟨#[]⟩, .int .i64 0, .string ⟨#[]⟩, .int .i64 0, .slice none 0 0, .slice none 0 0, .slice none 0 0]).drew.tail.tail.tail.tail.tail.tail.own)) hc2 hm2).mono ?_)
     rintro e wJGR ⟨rfl, bR⟩
     have yJGR := ((y7.alloc 23 #[.string ⟨#[]⟩, .int .i64 0, .int .i64 0]).alloc 32 #[.string ⟨#[]⟩, .int .i64 0, .string ⟨#[]⟩, .int .i64 0, .slice none 0 0, .slice none 0 0, .slice none 0 0]).drew.under bR
     try simp only [World.size_alloc] at yJGR
     have sfJGR := hS _ (yJGR.tail.tail.tail.blk)); go_wp2_with fail
    refine hK.out _ _ (by with_reducible exact sfJGR) fun hH55 => ?_
    clear hK K hH54
    try simp only [pu]
    refine tk 5 88 hH55 ?_
    refine rdy [6] ?_
    refine an 89 fun K hK => ?_
    go_simp; (
     (with_reducible refine (ks2 _).mono ?_)
     rintro e wJGRS ⟨ua, ub, rfl, t2⟩
     obtain ⟨A3, n3, rfl, _, _⟩ := own_form t2.own
     obtain ⟨A4, n4, rfl, _, _⟩ := own_form t2.tail.own
     have yJGRS := yJGR.join t2
     try simp only [World.size_alloc] at yJGRS
     have ltG := (yJGRS.tail.tail).blk.lt
     have neG : ¬ (wJGRS.heap.size = w7.heap.size + 1) := Nat.ne_of_gt ltG
     have ltJ := (yJGRS.tail.tail.tail).blk.lt
     have neJ : ¬ (wJGRS.heap.size = w7.heap.size) := Nat.ne_of_gt ltJ
     have ltJG : w7.heap.size < w7.heap.size + 1 := by first | exact ((y7.alloc 23 #[.string ⟨#[]⟩, .int .i64 0, .int .i64 0]).drew).blk.lt | (have := ((y7.alloc 23 #[.string ⟨#[]⟩, .int .i64 0, .int .i64 0]).drew).blk.lt; simp only [World.size_alloc] at this; exact this) | (have := ((y7.alloc 23 #[.string ⟨#[]⟩, .int .i64 0, .int .i64 0]).drew).blk.lt; simp only [World.size_drew, World.size_alloc] at this; exact this)
     have neJG : ¬ (w7.heap.size = w7.heap.size + 1) := Nat.ne_of_lt ltJG
     have neGJ : ¬ (w7.heap.size + 1 = w7.heap.size) := Nat.ne_of_gt ltJG
     have sfJGRS := hS _ (yJGRS.tail.tail.tail.tail.tail.blk)
     have qJGRS1 := ((((((((yJGRS.pk [2, 0, 1, 3, 4, 5, 6, 7, 8, 9]).set_ 0 (.string ⟨#[108, 111, 103]⟩)).set_ 1 (.int .i64 (m : Int))).set_ 2 (.string ⟨rb.toArray⟩)).set_ 3 (.int .i64 1)).set_ 4 (.slice A3 cB.length n3)).set_ 5 (.slice A4 tB.length n4)).set_ 6 (.slice none 0 0))
     have sfJGRS1 := hS _ (qJGRS1.tail.tail.tail.tail.tail.blk)
     clear qJGRS1
     have qJGRS2 := ((((((((((((yJGRS.pk [2, 0, 1, 3, 4, 5, 6, 7, 8, 9]).set_ 0 (.string ⟨#[108, 111, 103]⟩)).set_ 1 (.int .i64 (m : Int))).set_ 2 (.string ⟨rb.toArray⟩)).set_ 3 (.int .i64 1)).set_ 4 (.slice A3 cB.length n3)).set_ 5 (.slice A4 tB.length n4)).set_ 6 (.slice none 0 0)).pk [3, 0, 1, 2, 4, 5, 6, 7, 8, 9]).set_ 0 (.string ⟨SR.toArray⟩)).set_ 1 (.int .i64 1)).set_ 2 (.int .i64 2))
     have sfJGRS2 := hS _ (qJGRS2.tail.tail.tail.tail.tail.blk)
     clear qJGRS2
     obtain ⟨_, _, _, _, _, _, _, _, _, _, _, _, _, _⟩ := bk7 yJGRS.tail.tail.blk
     obtain ⟨_, _, _, _, _, _⟩ := bk3 yJGRS.tail.tail.tail.blk); go_wp2_with fail
    refine hK.out _ _ (by with_reducible exact sfJGRS) fun hH56 => ?_
    clear hK K hH55
    try simp only [pu]
    refine tk 7 82 hH56 ?_
    refine tk 8 90 hH56 ?_
    refine tk 9 91 hH56 ?_
    refine tk 10 92 hH56 ?_
    refine rdy [13] ?_
    refine az fun K hK => ?_
    go_simp
    refine hK.out _ _ (by with_reducible exact sfJGRS1) fun hH57 => ?_
    clear hK K hH56
    try simp only [pu]
    refine rdy [14] ?_
    refine az fun K hK => ?_
    go_simp
    refine hK.out _ _ (by with_reducible exact sfJGRS2) fun hH58 => ?_
    clear hK K hH57
    try simp only [pu]
    refine tk 15 17 hH58 ?_
    refine dn ?_ _
    all_goals (refine NoPanic.normal ?_)
    all_goals
     first
      | (have yF := ((yRS.alloc 32 #[.string ⟨#[108, 111, 103]⟩, .int .i64 (m : Int), .string ⟨rb.toArray⟩, .int .i64 1, .slice A3 cB.length n3, .slice A4 tB.length n4, .slice none 0 0]).alloc 23 #[.string ⟨SR.toArray⟩, .int .i64 1, .int .i64 2]).pk [1, 0, 2, 3, 4, 5, 6, 7, 8, 9]
         try simp only [ws] at yF
         obtain ⟨pJ, hpJ⟩ : ∃ q, wRS.heap.size + 1 = q := ⟨_, rfl⟩
         rw [hpJ] at yF ⊢
         obtain ⟨pG, hpG⟩ : ∃ q, wRS.heap.size = q := ⟨_, rfl⟩
         rw [hpG] at yF ⊢
         exact ⟨rfl, pG, pJ, A3, A4, n3, n4, rfl, yF⟩)
      | (have yF := ((yRS.alloc 23 #[.string ⟨SR.toArray⟩, .int .i64 1, .int .i64 2]).alloc 32 #[.string ⟨#[108, 111, 103]⟩, .int .i64 (m : Int), .string ⟨rb.toArray⟩, .int .i64 1, .slice A3 cB.length n3, .slice A4 tB.length n4, .slice none 0 0]).pk [0, 1, 2, 3, 4, 5, 6, 7, 8, 9]
         try simp only [ws] at yF
         obtain ⟨pG, hpG⟩ : ∃ q, wRS.heap.size + 1 = q := ⟨_, rfl⟩
         rw [hpG] at yF ⊢
         obtain ⟨pJ, hpJ⟩ : ∃ q, wRS.heap.size = q := ⟨_, rfl⟩
         rw [hpJ] at yF ⊢
         exact ⟨rfl, pG, pJ, A3, A4, n3, n4, rfl, yF⟩)
      | (have yF := (((((((((yRGS.pk [2, 0, 1, 3, 4, 5, 6, 7, 8]).set_ 0 (.string ⟨#[108, 111, 103]⟩)).set_ 1 (.int .i64 (m : Int))).set_ 2 (.string ⟨rb.toArray⟩)).set_ 3 (.int .i64 1)).set_ 4 (.slice A3 cB.length n3)).set_ 5 (.slice A4 tB.length n4)).set_ 6 (.slice none 0 0)).alloc 23 #[.string ⟨SR.toArray⟩, .int .i64 1, .int .i64 2]).pk [1, 0, 2, 3, 4, 5, 6, 7, 8, 9]
         try simp only [ws] at yF
         obtain ⟨pJ, hpJ⟩ : ∃ q, wRGS.heap.size = q := ⟨_, rfl⟩
         rw [hpJ] at yF ⊢
         obtain ⟨pG, hpG⟩ : ∃ q, wR.heap.size = q := ⟨_, rfl⟩
         rw [hpG] at yF ⊢
         exact ⟨rfl, pG, pJ, A3, A4, n3, n4, rfl, yF⟩)
      | (have yF := ((((((((((((yRGJS.pk [3, 0, 1, 2, 4, 5, 6, 7, 8, 9]).set_ 0 (.string ⟨#[108, 111, 103]⟩)).set_ 1 (.int .i64 (m : Int))).set_ 2 (.string ⟨rb.toArray⟩)).set_ 3 (.int .i64 1)).set_ 4 (.slice A3 cB.length n3)).set_ 5 (.slice A4 tB.length n4)).set_ 6 (.slice none 0 0)).pk [3, 0, 1, 2, 4, 5, 6, 7, 8, 9]).set_ 0 (.string ⟨SR.toArray⟩)).set_ 1 (.int .i64 1)).set_ 2 (.int .i64 2)).pk [1, 0, 2, 3, 4, 5, 6, 7, 8, 9]
         try simp only [ws] at yF
         obtain ⟨pJ, hpJ⟩ : ∃ q, wR.heap.size + 1 = q := ⟨_, rfl⟩
         rw [hpJ] at yF ⊢
         obtain ⟨pG, hpG⟩ : ∃ q, wR.heap.size = q := ⟨_, rfl⟩
         rw [hpG] at yF ⊢
         exact ⟨rfl, pG, pJ, A3, A4, n3, n4, rfl, yF⟩)
      | (have yF := (((((yRJS.pk [2, 0, 1, 3, 4, 5, 6, 7, 8]).set_ 0 (.string ⟨SR.toArray⟩)).set_ 1 (.int .i64 1)).set_ 2 (.int .i64 2)).alloc 32 #[.string ⟨#[108, 111, 103]⟩, .int .i64 (m : Int), .string ⟨rb.toArray⟩, .int .i64 1, .slice A3 cB.length n3, .slice A4 tB.length n4, .slice none 0 0]).pk [0, 1, 2, 3, 4, 5, 6, 7, 8, 9]
         try simp only [ws] at yF
         obtain ⟨pG, hpG⟩ : ∃ q, wRJS.heap.size = q := ⟨_, rfl⟩
         rw [hpG] at yF ⊢
         obtain ⟨pJ, hpJ⟩ : ∃ q, wR.heap.size = q := ⟨_, rfl⟩
         rw [hpJ] at yF ⊢
         exact ⟨rfl, pG, pJ, A3, A4, n3, n4, rfl, yF⟩)
      | (have yF := ((((((((((((yRJGS.pk [2, 0, 1, 3, 4, 5, 6, 7, 8, 9]).set_ 0 (.string ⟨#[108, 111, 103]⟩)).set_ 1 (.int .i64 (m : Int))).set_ 2 (.string ⟨rb.toArray⟩)).set_ 3 (.int .i64 1)).set_ 4 (.slice A3 cB.length n3)).set_ 5 (.slice A4 tB.length n4)).set_ 6 (.slice none 0 0)).pk [3, 0, 1, 2, 4, 5, 6, 7, 8, 9]).set_ 0 (.string ⟨SR.toArray⟩)).set_ 1 (.int .i64 1)).set_ 2 (.int .i64 2)).pk [1, 0, 2, 3, 4, 5, 6, 7, 8, 9]
         try simp only [ws] at yF
         obtain ⟨pG, hpG⟩ : ∃ q, wR.heap.size + 1 = q := ⟨_, rfl⟩
         rw [hpG] at yF ⊢
         obtain ⟨pJ, hpJ⟩ : ∃ q, wR.heap.size = q := ⟨_, rfl⟩
         rw [hpJ] at yF ⊢
         exact ⟨rfl, pG, pJ, A3, A4, n3, n4, rfl, yF⟩)
      | (have yF := (((((((((yGRS.pk [2, 0, 1, 3, 4, 5, 6, 7, 8]).set_ 0 (.string ⟨#[108, 111, 103]⟩)).set_ 1 (.int .i64 (m : Int))).set_ 2 (.string ⟨rb.toArray⟩)).set_ 3 (.int .i64 1)).set_ 4 (.slice A3 cB.length n3)).set_ 5 (.slice A4 tB.length n4)).set_ 6 (.slice none 0 0)).alloc 23 #[.string ⟨SR.toArray⟩, .int .i64 1, .int .i64 2]).pk [1, 0, 2, 3, 4, 5, 6, 7, 8, 9]
         try simp only [ws] at yF
         obtain ⟨pJ, hpJ⟩ : ∃ q, wGRS.heap.size = q := ⟨_, rfl⟩
         rw [hpJ] at yF ⊢
         obtain ⟨pG, hpG⟩ : ∃ q, w7.heap.size = q := ⟨_, rfl⟩
         rw [hpG] at yF ⊢
         exact ⟨rfl, pG, pJ, A3, A4, n3, n4, rfl, yF⟩)
      | (have yF := ((((((((((((yGRJS.pk [3, 0, 1, 2, 4, 5, 6, 7, 8, 9]).set_ 0 (.string ⟨#[108, 111, 103]⟩)).set_ 1 (.int .i64 (m : Int))).set_ 2 (.string ⟨rb.toArray⟩)).set_ 3 (.int .i64 1)).set_ 4 (.slice A3 cB.length n3)).set_ 5 (.slice A4 tB.length n4)).set_ 6 (.slice none 0 0)).pk [3, 0, 1, 2, 4, 5, 6, 7, 8, 9]).set_ 0 (.string ⟨SR.toArray⟩)).set_ 1 (.int .i64 1)).set_ 2 (.int .i64 2)).pk [1, 0, 2, 3, 4, 5, 6, 7, 8, 9]
         try simp only [ws] at yF
         obtain ⟨pJ, hpJ⟩ : ∃ q, wGR.heap.size = q := ⟨_, rfl⟩
         rw [hpJ] at yF ⊢
         obtain ⟨pG, hpG⟩ : ∃ q, w7.heap.size = q := ⟨_, rfl⟩
         rw [hpG] at yF ⊢
         exact ⟨rfl, pG, pJ, A3, A4, n3, n4, rfl, yF⟩)
      | (have yF := ((((((((((((yGJRS.pk [3, 0, 1, 2, 4, 5, 6, 7, 8, 9]).set_ 0 (.string ⟨#[108, 111, 103]⟩)).set_ 1 (.int .i64 (m : Int))).set_ 2 (.string ⟨rb.toArray⟩)).set_ 3 (.int .i64 1)).set_ 4 (.slice A3 cB.length n3)).set_ 5 (.slice A4 tB.length n4)).set_ 6 (.slice none 0 0)).pk [3, 0, 1, 2, 4, 5, 6, 7, 8, 9]).set_ 0 (.string ⟨SR.toArray⟩)).set_ 1 (.int .i64 1)).set_ 2 (.int .i64 2)).pk [1, 0, 2, 3, 4, 5, 6, 7, 8, 9]
         try simp only [ws] at yF
         obtain ⟨pJ, hpJ⟩ : ∃ q, w7.heap.size + 1 = q := ⟨_, rfl⟩
         rw [hpJ] at yF ⊢
         obtain ⟨pG, hpG⟩ : ∃ q, w7.heap.size = q := ⟨_, rfl⟩
         rw [hpG] at yF ⊢
         exact ⟨rfl, pG, pJ, A3, A4, n3, n4, rfl, yF⟩)
      | (have yF := (((((yJRS.pk [2, 0, 1, 3, 4, 5, 6, 7, 8]).set_ 0 (.string ⟨SR.toArray⟩)).set_ 1 (.int .i64 1)).set_ 2 (.int .i64 2)).alloc 32 #[.string ⟨#[108, 111, 103]⟩, .int .i64 (m : Int), .string ⟨rb.toArray⟩, .int .i64 1, .slice A3 cB.length n3, .slice A4 tB.length n4, .slice none 0 0]).pk [0, 1, 2, 3, 4, 5, 6, 7, 8, 9]
         try simp only [ws] at yF
         obtain ⟨pG, hpG⟩ : ∃ q, wJRS.heap.size = q := ⟨_, rfl⟩
         rw [hpG] at yF ⊢
         obtain ⟨pJ, hpJ⟩ : ∃ q, w7.heap.size = q := ⟨_, rfl⟩
         rw [hpJ] at yF ⊢
         exact ⟨rfl, pG, pJ, A3, A4, n3, n4, rfl, yF⟩)
      | (have yF := ((((((((((((yJRGS.pk [2, 0, 1, 3, 4, 5, 6, 7, 8, 9]).set_ 0 (.string ⟨#[108, 111, 103]⟩)).set_ 1 (.int .i64 (m : Int))).set_ 2 (.string ⟨rb.toArray⟩)).set_ 3 (.int .i64 1)).set_ 4 (.slice A3 cB.length n3)).set_ 5 (.slice A4 tB.length n4)).set_ 6 (.slice none 0 0)).pk [3, 0, 1, 2, 4, 5, 6, 7, 8, 9]).set_ 0 (.string ⟨SR.toArray⟩)).set_ 1 (.int .i64 1)).set_ 2 (.int .i64 2)).pk [1, 0, 2, 3, 4, 5, 6, 7, 8, 9]
         try simp only [ws] at yF
         obtain ⟨pG, hpG⟩ : ∃ q, wJR.heap.size = q := ⟨_, rfl⟩
         rw [hpG] at yF ⊢
         obtain ⟨pJ, hpJ⟩ : ∃ q, w7.heap.size = q := ⟨_, rfl⟩
         rw [hpJ] at yF ⊢
         exact ⟨rfl, pG, pJ, A3, A4, n3, n4, rfl, yF⟩)
      | (have yF := ((((((((((((yJGRS.pk [2, 0, 1, 3, 4, 5, 6, 7, 8, 9]).set_ 0 (.string ⟨#[108, 111, 103]⟩)).set_ 1 (.int .i64 (m : Int))).set_ 2 (.string ⟨rb.toArray⟩)).set_ 3 (.int .i64 1)).set_ 4 (.slice A3 cB.length n3)).set_ 5 (.slice A4 tB.length n4)).set_ 6 (.slice none 0 0)).pk [3, 0, 1, 2, 4, 5, 6, 7, 8, 9]).set_ 0 (.string ⟨SR.toArray⟩)).set_ 1 (.int .i64 1)).set_ 2 (.int .i64 2)).pk [1, 0, 2, 3, 4, 5, 6, 7, 8, 9]
         try simp only [ws] at yF
         obtain ⟨pG, hpG⟩ : ∃ q, w7.heap.size + 1 = q := ⟨_, rfl⟩
         rw [hpG] at yF ⊢
         obtain ⟨pJ, hpJ⟩ : ∃ q, w7.heap.size = q := ⟨_, rfl⟩
         rw [hpJ] at yF ⊢
         exact ⟨rfl, pG, pJ, A3, A4, n3, n4, rfl, yF⟩)
   case k =>
    rintro pb kb A3 A4 n3 n4 w8 y8
    obtain ⟨ucB1, ucB2⟩ : cB.length ≤ n3 ∧ n3 ≤ maxLen := by (obtain ⟨_, _, e, q1, q2⟩ := own_form y8.tail.tail.own; injection e with _ _ e; subst e; exact ⟨q1, q2⟩)
    obtain ⟨utB1, utB2⟩ : tB.length ≤ n4 ∧ n4 ≤ maxLen := by (obtain ⟨_, _, e, q1, q2⟩ := own_form y8.tail.tail.tail.own; injection e with _ _ e; subst e; exact ⟨q1, q2⟩)
    have UB := Lib.hid (And.intro ucB1 (And.intro ucB2 (And.intro utB1 utB2)))
    clear ucB1 ucB2 utB1 utB2
    have y9 := y8.pk [0, 2, 3, 4, 6, 7, 8, 9]
    clear ks2 kRM y7 y8 hS
    have b0 := y9.blk.cell 0
    have b1 := y9.blk.cell 1
    have b2 := y9.blk.cell 2
    have b3 := y9.blk.cell 3
    have b4 := y9.blk.cell 4
    have b5 := y9.blk.cell 5
    have b6 := y9.blk.cell 6
    have a0 := y9.tail.tail.tail.blk.cell 0
    have a1 := y9.tail.tail.tail.blk.cell 1
    have a2 := y9.tail.tail.tail.blk.cell 2
    have a3 := y9.tail.tail.tail.blk.cell 3
    have a4 := y9.tail.tail.tail.blk.cell 4
    have a5 := y9.tail.tail.tail.blk.cell 5
    have a6 := y9.tail.tail.tail.blk.cell 6
    go_wp2_with fail
    refine (kcmp _ _ _ _ _ _ _ _ _ _ _ (Rd.of_own y9.tail.tail.tail.tail.tail.tail.own) hc2 hm2).mono ?_
    rintro e w9 ⟨pv, rfl, t9⟩
    obtain ⟨A5, n5, rfl, u1, u2⟩ := own_form t9.own
    have U5 := Lib.hid (And.intro u1 u2)
    have y10 := (y9.join t9).alloc 70 #[.string ⟨#[108, 111, 103]⟩, .int .i64 (n : Int), .string ⟨ra.toArray⟩, .int .i64 0, .slice A1 cA.length n1, .slice A2 tA.length n2, .slice none 0 0, .string ⟨#[108, 111, 103]⟩, .int .i64 (m : Int), .string ⟨rb.toArray⟩, .int .i64 1, .slice A3 cB.length n3, .slice A4 tB.length n4, .slice none 0 0, .string ⟨rm.toArray⟩, .slice A5 P.length n5]
    obtain ⟨g, hg⟩ : ∃ q, w9.heap.size = q := ⟨_, rfl⟩
    rw [hg] at y10
    obtain ⟨w10, hw10, y10⟩ : ∃ q, w9.alloc (.cells #[.string ⟨#[108, 111, 103]⟩, .int .i64 (n : Int), .string ⟨ra.toArray⟩, .int .i64 0, .slice A1 cA.length n1, .slice A2 tA.length n2, .slice none 0 0, .string ⟨#[108, 111, 103]⟩, .int .i64 (m : Int), .string ⟨rb.toArray⟩, .int .i64 1, .slice A3 cB.length n3, .slice A4 tB.length n4, .slice none 0 0, .string ⟨rm.toArray⟩, .slice A5 P.length n5] 70) = q ∧ St w.heap.size w q _ := ⟨_, rfl, y10⟩
    clear kcmp t9 y9 u1 u2 a0 a1 a2 a3 a4 a5 a6 b0 b1 b2 b3 b4 b5 b6
    have ee0 := y10.blk.cell 0
    have ee1 := y10.blk.cell 1
    have ee2 := y10.blk.cell 2
    have ee3 := y10.blk.cell 3
    have ee4 := y10.blk.cell 4
    have ee5 := y10.blk.cell 5
    have ee6 := y10.blk.cell 6
    have ee7 := y10.blk.cell 7
    have ee8 := y10.blk.cell 8
    have ee9 := y10.blk.cell 9
    have ee10 := y10.blk.cell 10
    have ee11 := y10.blk.cell 11
    have ee12 := y10.blk.cell 12
    have ee13 := y10.blk.cell 13
    have ee14 := y10.blk.cell 14
    have ee15 := y10.blk.cell 15
    go_wp2_with fail
    refine (kchk _ _ _ _ _ _ _ _ _ _ _ (Rd.of_own y10.tail.tail.tail.tail.tail.tail.own) (Rd.of_own y10.tail.tail.tail.tail.tail.tail.tail.own) UA.out.1 UA.out.2.1 UA.out.2.2.1 UA.out.2.2.2 (Rd.of_own y10.tail.tail.tail.own) (Rd.of_own y10.tail.tail.tail.tail.own) UB.out.1 UB.out.2.1 UB.out.2.2.1 UB.out.2.2.2 (Rd.of_own y10.tail.own) U5.out.1 U5.out.2).mono ?_
    rintro e w11 ⟨rfl, b11⟩
    have Y11 := Lib.hid (y10.under b11)
    clear kchk y10 b11 hw10 hg ee0 ee1 ee2 ee3 ee4 ee5 ee6 ee7 ee8 ee9 ee10 ee11 ee12 ee13 ee14 ee15
    go_wp2
    go_ret
    exact ⟨rfl, Y11.out.below⟩
end Go.Proofs.YtjjpdnpbhdcpbaaGreat
