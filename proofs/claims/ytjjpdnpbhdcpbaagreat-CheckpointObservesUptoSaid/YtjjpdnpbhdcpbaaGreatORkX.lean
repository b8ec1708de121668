/-
  The reference's check of a consistency proof. Conditions: proofs of at most 4096 elements.
-/
import Derived.Test.YtjjpdnpbhdcpbaaGreatOPa
import Derived.Test.YtjjpdnpbhdcpbaaGreatQMkB
import Derived.Test.YtjjpdnpbhdcpbaaGreatOSgO
namespace Go.Proofs.YtjjpdnpbhdcpbaaGreat
set_option linter.unusedVariables false
open Go.RowKit Go.Shelf
attribute [local go_sem] Oper.semAt_some
theorem size_both : (Tryz.prog.info? 161).map (·.size) = some 3 := by kernel_rfl
def BoP (x : (Mk.Str × Mk.Str) × Bool) (w : World) (e : Ending) (w' : World) : Prop := e = .returned (.agg #[.string ⟨x.1.1.toArray⟩, .string ⟨x.1.2.toArray⟩, .bool x.2]) ∧ Below w.heap.size w w'
set_option maxRecDepth 20000 in
set_option maxHeartbeats 4000000 in
theorem rread_spec : ∀ (n : Nat) (A : Option Addr) (P : List Mk.Str) (x : Mk.Str) (t : Bool) (m c : Nat) (w : World), ¬ x = [] → 1 ≤ m → m ≤ n → n ≤ 1099511627776 → Rd w A (strs P) → P.length ≤ c → c ≤ maxLen →
 Calls Tryz.prog 138 #[.int .i64 (m : Int), .int .i64 (n : Int), .bool t, .string ⟨x.toArray⟩, .slice A P.length c] w (BoP (Mk.rd m n (if t = true then x else []) P) w) := by
 intro n
 induction n using Nat.strongRecOn with
 | _ n ih =>
   intro A P x t m c w hx h1 hmn hn hR hc hm
   unfold maxLen at hm
   have h0 := (St.nil w).alloc 161 #[.string ⟨#[]⟩, .string ⟨#[]⟩, .bool false]
   by_cases hmN : m = n
   ·subst hmN
    rw [Mk.rd_same]
    cases t with
    | true =>
      rw [if_pos rfl, if_pos hx, isEmpty_len]
      clear hR ih hx
      have YE := Lib.hid ((St.nil w).alloc 161 #[.string ⟨x.toArray⟩, .string ⟨x.toArray⟩, .bool ((P.length : Int) == 0)])
      clear h0
      go_enter Tryz.func138, Tryz.ntmps138
      go_wp2
      refine bodyPost_ret (results_cell_row rfl _ _ _ _ _ _ _ rfl YE.out.blk Tryz.underlying161 rfl size_both) rfl ?_
      exact ⟨rfl, YE.out.below⟩
    | false =>
      rw [show (if false = true then x else ([] : Mk.Str)) = [] from rfl, if_neg (by simp)]
      by_cases hP : P.length = 1
      ·rw [if_neg (by omega)]
       obtain ⟨q, rfl⟩ := List.length_eq_one_iff.1 hP
       obtain ⟨b, off, hA, hcc⟩ := hR.str (k := 0) (by simp)
       subst hA
       rw [Nat.add_zero] at hcc
       have hcc : w.cell? ⟨b, off, none⟩ = some (.string ⟨q.toArray⟩) := hcc
       have hw2 : ∀ W', Below w.heap.size w W' → W'.cell? ⟨b, off, none⟩ = some (.string ⟨q.toArray⟩) := fun W' hb => below_cell hb hcc
       show Calls _ _ _ _ (BoP ((q, q), true) w)
       have e1 : ([q] : List Mk.Str).length = 1 := rfl
       rw [e1] at hc ⊢
       clear hR ih e1 hP hx
       have z0 := hw2 _ h0.drew.below
       have z1 := hw2 _ ((St.nil w).alloc 161 #[.string ⟨q.toArray⟩, .string ⟨#[]⟩, .bool false]).drew.below
       have z2 := hw2 _ ((St.nil w).alloc 161 #[.string ⟨q.toArray⟩, .string ⟨q.toArray⟩, .bool false]).drew.below
       have z3 := hw2 _ ((St.nil w).alloc 161 #[.string ⟨q.toArray⟩, .string ⟨q.toArray⟩, .bool true]).drew.below
       have YE := ((St.nil w).alloc 161 #[.string ⟨q.toArray⟩, .string ⟨q.toArray⟩, .bool true]).drew
       clear h0
       go_enter Tryz.func138, Tryz.ntmps138
       go_wp2_with fail
       refine wp_region_noPanic ?_
       refine wp_region_held_drew (S := (fun W' => W'.cell? ⟨b, off, none⟩ = some (.string ⟨q.toArray⟩))) (by kernel_rfl) ?_ (fun hH0 => ?_)
       ·with_reducible exact z0
       refine tk 0 29 hH0 ?_
       refine tk 1 30 hH0 ?_
       refine tk 2 31 hH0 ?_
       refine tk 3 32 hH0 ?_
       refine tk 4 33 hH0 ?_
       refine tk 5 34 hH0 ?_
       refine tk 6 35 hH0 ?_
       refine rdy [7] ?_
       refine az fun K hK => ?_
       go_simp
       refine hK.out _ _ (by with_reducible exact z3) fun hH1 => ?_
       clear hK K hH0
       try simp only [pu]
       refine dn ?_ _
       all_goals (refine NoPanic.normal ?_)
       all_goals
        go_wp2
        refine bodyPost_ret (results_cell_row rfl _ _ _ _ _ _ _ rfl YE.blk Tryz.underlying161 rfl size_both) rfl ?_
        exact ⟨rfl, YE.below⟩
      ·rw [if_pos hP]
       have g0 : ((P.length : Int) != 1) = true := by simp; omega
       clear hR ih hx
       have YE := Lib.hid ((St.nil w).alloc 161 #[.string ⟨#[]⟩, .string ⟨#[]⟩, .bool false])
       clear h0
       go_enter Tryz.func138, Tryz.ntmps138
       go_wp2
       refine bodyPost_ret (results_cell_row rfl _ _ _ _ _ _ _ rfl YE.out.blk Tryz.underlying161 rfl size_both) rfl ?_
       exact ⟨rfl, YE.out.below⟩
   ·have g1 : ((m : Int) == (n : Int)) = false := by rw [beq_eq_false_iff_ne]; omega
    rcases Mk.snoc_cases P with rfl | ⟨Q, q, rfl⟩
    ·rw [Mk.rd_nil m n _ (by omega) hmN]
     clear hR ih hx
     have YE := Lib.hid ((St.nil w).alloc 161 #[.string ⟨#[]⟩, .string ⟨#[]⟩, .bool false])
     clear h0
     go_enter Tryz.func138, Tryz.ntmps138
     go_wp2
     refine bodyPost_ret (results_cell_row rfl _ _ _ _ _ _ _ rfl YE.out.blk Tryz.underlying161 rfl size_both) rfl ?_
     exact ⟨rfl, YE.out.below⟩
    ·have hlen : (Q ++ [q]).length = Q.length + 1 := by simp
     obtain ⟨b, off, hA, hcc0⟩ := hR.str (k := Q.length) (by rw [hlen]; omega)
     subst hA
     have hq : (Q ++ [q])[Q.length]'(by rw [hlen]; omega) = q := by simp
     have hcc : w.cell? ⟨b, off + Q.length, none⟩ = some (.string ⟨q.toArray⟩) := by
      rw [hcc0]; congr 3; exact congrArg List.toArray hq
     clear hcc0
     have hRQ : Rd w (some ⟨b, off, none⟩) (strs Q) := by
      have := rd_take hR Q.length
      rwa [List.take_left] at this
     rw [hlen] at hc ⊢
     have ks := fun W => (rsplit_spec n (by omega) hn W).mono (fun e w' h => And.intro h.1 h.2.symm)
     have hk0 := Mk.split_pos n
     have hk1 := Mk.split_lt (n := n) (by omega)
     have hgl := Mk.rd_left m n (if t = true then x else []) Q q (by omega) hmN
     have hgr := Mk.rd_right m n (if t = true then x else []) Q q (by omega) hmN
     obtain ⟨k, hk⟩ : ∃ k, Mk.split n = k := ⟨_, rfl⟩
     rw [hk] at ks hk0 hk1 hgl hgr
     obtain ⟨N, hN⟩ : ∃ N, Q.length = N := ⟨_, rfl⟩
     have kL : m ≤ k → ∀ W, Below w.heap.size w W → Calls Tryz.prog 138 #[.int .i64 (m : Int), .int .i64 (k : Int), .bool t, .string ⟨x.toArray⟩, .slice (some ⟨b, off, none⟩) N c] W (BoP (Mk.rd m k (if t = true then x else []) Q) W) := fun hik W hb => by
      have := ih k hk1 (some ⟨b, off, none⟩) Q x t m c W hx h1 hik (by omega) (hRQ.below hb) (by omega) (by unfold maxLen; omega)
      rwa [hN] at this
     have kR : ¬ m ≤ k → ∀ W, Below w.heap.size w W → Calls Tryz.prog 138 #[.int .i64 ((m - k : Nat) : Int), .int .i64 ((n - k : Nat) : Int), .bool false, .string ⟨x.toArray⟩, .slice (some ⟨b, off, none⟩) N c] W (BoP (Mk.rd (m - k) (n - k) [] Q) W) := fun hik W hb => by
      have := ih (n - k) (by omega) (some ⟨b, off, none⟩) Q x false (m - k) c W hx (by omega) (by omega) (by omega) (hRQ.below hb) (by omega) (by unfold maxLen; omega)
      rwa [hN] at this
     rw [hN] at hcc hc ⊢
     have HX := Lib.hid (And.intro hN (And.intro hk (And.intro hR hRQ)))
     clear hR hRQ hN hk ih hq hlen hx
     have p0 : (((N + 1 : Nat) : Int) == 0) = false := by rw [beq_eq_false_iff_ne]; omega
     have p00 : ((N : Int) + 1 == 0) = false := by rw [beq_eq_false_iff_ne]; omega
     have p1 : IntKind.i64.wrap (N : Int) = (N : Int) := by rw [IntWalk.i64_left, IntWalk.wrap64_in _ (by omega)]
     have p2 : (0 : Int) ≤ (N : Int) := by omega
     have p3 : (N : Int) < (N : Int) + 1 := by omega
     have p4 : (N : Int) ≤ (c : Int) := by omega
     have p5 : (N : Int) + 1 ≤ (c : Int) := by omega
     obtain ⟨g, hg0⟩ : ∃ g, w.heap.size = g := ⟨_, rfl⟩
     have h0 : St w.heap.size w (w.alloc (.cells #[.string ⟨#[]⟩, .string ⟨#[]⟩, .bool false] 161)) [cellsR g 161 #[.string ⟨#[]⟩, .string ⟨#[]⟩, .bool false]] := by rw [← hg0]; exact h0
     by_cases hik : m ≤ k
     ·have g2 : decide ((m : Int) ≤ (k : Int)) = true := by simp; omega
      have hg := hgl hik
      have k2 := kL hik
      clear hgl hgr kL kR
      rw [hg]
      generalize Mk.rd m k (if t = true then x else []) Q = G at k2 ⊢
      obtain ⟨⟨O, W9⟩, ok⟩ := G
      have k3 := fun W => rnode_spec W9 q W
      show Calls _ _ _ _ (BoP ((O, Mk.node W9 q), ok) w)
      generalize Mk.node W9 q = R2 at k3 ⊢
      unfold BoP at k2
      dsimp only at k2
      go_enter Tryz.func138, Tryz.ntmps138
      go_wp2_with fail
      refine (ks _).mono ?_
      rintro e w1 ⟨rfl, rfl⟩
      go_wp2_with fail
      refine (k2 _ h0.below).mono ?_
      rintro e w1 ⟨rfl, b1⟩
      have h1 := h0.under b1
      have h2 := h1.alloc 161 #[.string ⟨O.toArray⟩, .string ⟨W9.toArray⟩, .bool ok]
      obtain ⟨h, hh⟩ : ∃ h, w1.heap.size = h := ⟨_, rfl⟩
      rw [hh] at h2
      obtain ⟨W2, hW2⟩ : ∃ W2, w1.alloc (.cells #[.string ⟨O.toArray⟩, .string ⟨W9.toArray⟩, .bool ok] 161) = W2 := ⟨_, rfl⟩
      rw [hW2] at h2
      have hneq : h ≠ g := by
       obtain ⟨F, G, f1, f2, _, _, f3, _⟩ := h2.open2
       obtain ⟨_, rfl⟩ := f1
       obtain ⟨_, rfl⟩ := f2
       exact fun e => f3 h rfl e
      have hneq' : g ≠ h := Ne.symm hneq
      have hS : ∀ W' (cs : Array Value), Below w.heap.size w W' → St w.heap.size w W' [cellsR h 161 #[.string ⟨O.toArray⟩, .string ⟨W9.toArray⟩, .bool ok], cellsR g 161 cs] → (W'.cell? ⟨h, 0, none⟩ = some (.string ⟨O.toArray⟩) ∧ W'.cell? ⟨h, 1, none⟩ = some (.string ⟨W9.toArray⟩) ∧ W'.cell? ⟨h, 2, none⟩ = some (.bool ok) ∧ W'.cell? ⟨b, off + N, none⟩ = some (.string ⟨q.toArray⟩)) := fun W' cs hb hs => ⟨hs.blk.cell 0, hs.blk.cell 1, hs.blk.cell 2, below_cell hb hcc⟩
      have y0 := h2.drew
      have s0 := hS _ _ y0.below y0
      clear h0 h1 h2 b1
      go_wp2_with fail
      refine wp_region_noPanic ?_
      refine wp_region_held_drew (S := (fun W' => W'.cell? ⟨h, 0, none⟩ = some (.string ⟨O.toArray⟩) ∧ W'.cell? ⟨h, 1, none⟩ = some (.string ⟨W9.toArray⟩) ∧ W'.cell? ⟨h, 2, none⟩ = some (.bool ok) ∧ W'.cell? ⟨b, off + N, none⟩ = some (.string ⟨q.toArray⟩))) (by kernel_rfl) ?_ (fun hH0 => ?_)
      ·with_reducible exact s0
      refine tk 0 56 hH0 ?_
      refine tk 1 57 hH0 ?_
      refine tk 2 58 hH0 ?_
      refine tk 3 59 hH0 ?_
      refine tk 4 60 hH0 ?_
      refine tk 5 61 hH0 ?_
      refine tk 6 62 hH0 ?_
      refine tk 7 63 hH0 ?_
      refine tk 9 65 hH0 ?_
      refine tk 10 66 hH0 ?_
      refine rdy [8] ?_
      refine an 64 fun K hK => ?_
      go_simp; (
       (with_reducible refine (k3 _).mono ?_)
       rintro e w3 ⟨rfl, e1⟩
       have y1 := y0.under e1
       have s1 := hS _ _ y1.below y1
       have YF := y1.swap
       have gc0 := YF.blk.cell 0
       have gc1 := YF.blk.cell 1
       have gc2 := YF.blk.cell 2
       have gf0 := YF.blk.frozen 0
       have gf1 := YF.blk.frozen 1
       have gf2 := YF.blk.frozen 2
       have glt := YF.blk.lt
       have s2 := hS _ _ ((YF.set_ 0 (.string ⟨O.toArray⟩)).swap).below ((YF.set_ 0 (.string ⟨O.toArray⟩)).swap)
       have s3 := hS _ _ (((YF.set_ 0 (.string ⟨O.toArray⟩)).set_ 1 (.string ⟨R2.toArray⟩)).swap).below (((YF.set_ 0 (.string ⟨O.toArray⟩)).set_ 1 (.string ⟨R2.toArray⟩)).swap)
       have s4 := hS _ _ ((((YF.set_ 0 (.string ⟨O.toArray⟩)).set_ 1 (.string ⟨R2.toArray⟩)).set_ 2 (.bool ok)).swap).below ((((YF.set_ 0 (.string ⟨O.toArray⟩)).set_ 1 (.string ⟨R2.toArray⟩)).set_ 2 (.bool ok)).swap)
       have YE := (((YF.set_ 0 (.string ⟨O.toArray⟩)).set_ 1 (.string ⟨R2.toArray⟩)).set_ 2 (.bool ok))); go_wp2_with fail
      refine hK.out _ _ (by with_reducible exact s1) fun hH1 => ?_
      clear hK K hH0
      try simp only [pu]
      refine tk 11 67 hH1 ?_
      refine rdy [12] ?_
      refine az fun K hK => ?_
      go_simp
      refine hK.out _ _ (by with_reducible exact s4) fun hH2 => ?_
      clear hK K hH1
      try simp only [pu]
      refine dn ?_ _
      all_goals (refine NoPanic.normal ?_)
      all_goals
       go_wp2
       refine bodyPost_ret (results_cell_row rfl _ _ _ _ _ _ _ rfl YE.blk Tryz.underlying161 rfl size_both) rfl ?_
       exact ⟨rfl, YE.below⟩
     ·have g2 : decide ((m : Int) ≤ (k : Int)) = false := by simp; omega
      have hg := hgr hik
      have k2 := kR hik
      clear hgl hgr kL kR
      rw [hg]
      generalize Mk.rd (m - k) (n - k) [] Q = G at k2 ⊢
      obtain ⟨⟨O, W9⟩, ok⟩ := G
      have k3 := fun W => rnode_spec q O W
      have k4 := fun W => rnode_spec q W9 W
      show Calls _ _ _ _ (BoP ((Mk.node q O, Mk.node q W9), ok) w)
      generalize Mk.node q O = R1 at k3 ⊢
      generalize Mk.node q W9 = R2 at k4 ⊢
      have j1 : (m : Int) - (k : Int) = ((m - k : Nat) : Int) := by omega
      have j2 : (n : Int) - (k : Int) = ((n - k : Nat) : Int) := by omega
      have j3 : IntKind.i64.wrap ((m - k : Nat) : Int) = ((m - k : Nat) : Int) := by rw [IntKind.wrap_i64]; omega
      have j4 : IntKind.i64.wrap ((n - k : Nat) : Int) = ((n - k : Nat) : Int) := by rw [IntKind.wrap_i64]; omega
      generalize m - k = m' at k2 j1 j3
      generalize n - k = n' at k2 j2 j4
      unfold BoP at k2
      dsimp only at k2
      go_enter Tryz.func138, Tryz.ntmps138
      go_wp2_with fail
      refine (ks _).mono ?_
      rintro e w1 ⟨rfl, rfl⟩
      go_wp2_with fail
      refine (k2 _ h0.below).mono ?_
      rintro e w1 ⟨rfl, b1⟩
      have h1 := h0.under b1
      have h2 := h1.alloc 161 #[.string ⟨O.toArray⟩, .string ⟨W9.toArray⟩, .bool ok]
      obtain ⟨h, hh⟩ : ∃ h, w1.heap.size = h := ⟨_, rfl⟩
      rw [hh] at h2
      obtain ⟨W2, hW2⟩ : ∃ W2, w1.alloc (.cells #[.string ⟨O.toArray⟩, .string ⟨W9.toArray⟩, .bool ok] 161) = W2 := ⟨_, rfl⟩
      rw [hW2] at h2
      have hneq : h ≠ g := by
       obtain ⟨F, G, f1, f2, _, _, f3, _⟩ := h2.open2
       obtain ⟨_, rfl⟩ := f1
       obtain ⟨_, rfl⟩ := f2
       exact fun e => f3 h rfl e
      have hneq' : g ≠ h := Ne.symm hneq
      have hS : ∀ W' (cs : Array Value), Below w.heap.size w W' → St w.heap.size w W' [cellsR h 161 #[.string ⟨O.toArray⟩, .string ⟨W9.toArray⟩, .bool ok], cellsR g 161 cs] → (W'.cell? ⟨h, 0, none⟩ = some (.string ⟨O.toArray⟩) ∧ W'.cell? ⟨h, 1, none⟩ = some (.string ⟨W9.toArray⟩) ∧ W'.cell? ⟨h, 2, none⟩ = some (.bool ok) ∧ W'.cell? ⟨b, off + N, none⟩ = some (.string ⟨q.toArray⟩)) := fun W' cs hb hs => ⟨hs.blk.cell 0, hs.blk.cell 1, hs.blk.cell 2, below_cell hb hcc⟩
      have y0 := h2.drew
      have s0 := hS _ _ y0.below y0
      clear h0 h1 h2 b1
      go_wp2_with fail
      refine wp_region_noPanic ?_
      refine wp_region_held_drew (S := (fun W' => W'.cell? ⟨h, 0, none⟩ = some (.string ⟨O.toArray⟩) ∧ W'.cell? ⟨h, 1, none⟩ = some (.string ⟨W9.toArray⟩) ∧ W'.cell? ⟨h, 2, none⟩ = some (.bool ok) ∧ W'.cell? ⟨b, off + N, none⟩ = some (.string ⟨q.toArray⟩))) (by kernel_rfl) ?_ (fun hH0 => ?_)
      ·with_reducible exact s0
      refine tk 0 79 hH0 ?_
      refine tk 1 80 hH0 ?_
      refine tk 2 81 hH0 ?_
      refine tk 3 82 hH0 ?_
      refine tk 4 83 hH0 ?_
      refine tk 5 84 hH0 ?_
      refine tk 7 86 hH0 ?_
      refine tk 8 87 hH0 ?_
      refine tk 9 88 hH0 ?_
      refine tk 10 89 hH0 ?_
      refine tk 11 90 hH0 ?_
      refine tk 12 91 hH0 ?_
      refine tk 14 93 hH0 ?_
      refine tk 15 94 hH0 ?_
      refine rdy [6] ?_
      refine an 85 fun K hK => ?_
      go_simp; (
       (with_reducible refine (k3 _).mono ?_)
       rintro e w3 ⟨rfl, e1⟩
       have y1 := y0.under e1
       have s1 := hS _ _ y1.below y1); go_wp2_with fail
      refine hK.out _ _ (by with_reducible exact s1) fun hH1 => ?_
      clear hK K hH0
      try simp only [pu]
      refine rdy [13] ?_
      refine an 92 fun K hK => ?_
      go_simp; (
       (with_reducible refine (k4 _).mono ?_)
       rintro e w4 ⟨rfl, e2⟩
       have y2 := y1.under e2
       have s2 := hS _ _ y2.below y2
       have YF := y2.swap
       have gc0 := YF.blk.cell 0
       have gc1 := YF.blk.cell 1
       have gc2 := YF.blk.cell 2
       have gf0 := YF.blk.frozen 0
       have gf1 := YF.blk.frozen 1
       have gf2 := YF.blk.frozen 2
       have glt := YF.blk.lt
       have s3 := hS _ _ ((YF.set_ 0 (.string ⟨R1.toArray⟩)).swap).below ((YF.set_ 0 (.string ⟨R1.toArray⟩)).swap)
       have s4 := hS _ _ (((YF.set_ 0 (.string ⟨R1.toArray⟩)).set_ 1 (.string ⟨R2.toArray⟩)).swap).below (((YF.set_ 0 (.string ⟨R1.toArray⟩)).set_ 1 (.string ⟨R2.toArray⟩)).swap)
       have s5 := hS _ _ ((((YF.set_ 0 (.string ⟨R1.toArray⟩)).set_ 1 (.string ⟨R2.toArray⟩)).set_ 2 (.bool ok)).swap).below ((((YF.set_ 0 (.string ⟨R1.toArray⟩)).set_ 1 (.string ⟨R2.toArray⟩)).set_ 2 (.bool ok)).swap)
       have YE := (((YF.set_ 0 (.string ⟨R1.toArray⟩)).set_ 1 (.string ⟨R2.toArray⟩)).set_ 2 (.bool ok))); go_wp2_with fail
      refine hK.out _ _ (by with_reducible exact s2) fun hH2 => ?_
      clear hK K hH1
      try simp only [pu]
      refine tk 16 95 hH2 ?_
      refine rdy [17] ?_
      refine az fun K hK => ?_
      go_simp
      refine hK.out _ _ (by with_reducible exact s5) fun hH3 => ?_
      clear hK K hH2
      try simp only [pu]
      refine dn ?_ _
      all_goals (refine NoPanic.normal ?_)
      all_goals
       go_wp2
       refine bodyPost_ret (results_cell_row rfl _ _ _ _ _ _ _ rfl YE.blk Tryz.underlying161 rfl size_both) rfl ?_
       exact ⟨rfl, YE.below⟩
set_option maxRecDepth 20000 in
set_option maxHeartbeats 4000000 in
theorem rextends_spec (m n : Int) (x r : Mk.Str) (A : Option Addr) (P : List Mk.Str) (c : Nat) (w : World) (hR : Rd w A (strs P)) (hc : P.length ≤ c) (hm : c ≤ maxLen) (hl : P.length ≤ 4096) :
 Calls Tryz.prog 86 #[.int .i64 m, .int .i64 n, .string ⟨x.toArray⟩, .string ⟨r.toArray⟩, .slice A P.length c] w fun e w' => e = .returned (.bool (extB m n x r P)) ∧ Below w.heap.size w w' := by
 have k1 := rdigest_spec x
 have k2 := rdigest_spec r
 have k3 := fun W hb => digests_spec A P c W (hR.below hb) (by unfold maxLen at hm; omega)
 have k5 := fun W => rsum_spec [] (by decide) W
 have hl' : decide (P.length ≤ 4096) = true := decide_eq_true hl
 cases d1 : (decide (x.length = 32)) with
 | false =>
   have HB := Lib.hid (extB_bad (m := m) (n := n) (P := P) (o := x) (r := r) (by unfold extBad; simp [d1]))
   simp only [d1] at k1
   clear d1 hR k5 hl hl'
   go_enter Tryz.func86, Tryz.ntmps86
   go_wp2_with (first
    | ((with_reducible refine (k1 _).mono ?_); rintro e w1 ⟨rfl, rfl⟩)
    | ((with_reducible refine (k2 _).mono ?_); rintro e w1 ⟨rfl, rfl⟩)
    | ((with_reducible refine (k3 _ (Below.refl _ _)).mono ?_); rintro e w1 ⟨rfl, rfl⟩)
    | fail)
   go_ret
   exact ⟨by rw [HB.out]; rfl, Below.refl _ _⟩
 | true =>
   cases d2 : (decide (r.length = 32)) with
   | false =>
     have HB := Lib.hid (extB_bad (m := m) (n := n) (P := P) (o := x) (r := r) (by unfold extBad; simp [d1, d2]))
     simp only [d1, d2] at k1 k2
     clear d2 d1 hR k5 hl hl'
     go_enter Tryz.func86, Tryz.ntmps86
     go_wp2_with (first
      | ((with_reducible refine (k1 _).mono ?_); rintro e w1 ⟨rfl, rfl⟩)
      | ((with_reducible refine (k2 _).mono ?_); rintro e w1 ⟨rfl, rfl⟩)
      | ((with_reducible refine (k3 _ (Below.refl _ _)).mono ?_); rintro e w1 ⟨rfl, rfl⟩)
      | fail)
     go_ret
     exact ⟨by rw [HB.out]; rfl, Below.refl _ _⟩
   | true =>
     cases d3 : (vld P) with
     | false =>
       have HB := Lib.hid (extB_bad (m := m) (n := n) (P := P) (o := x) (r := r) (by unfold extBad; simp [d3, d1, d2]))
       simp only [d1, d2, d3] at k1 k2 k3
       clear d3 d1 d2 hR k5 hl hl'
       go_enter Tryz.func86, Tryz.ntmps86
       go_wp2_with (first
        | ((with_reducible refine (k1 _).mono ?_); rintro e w1 ⟨rfl, rfl⟩)
        | ((with_reducible refine (k2 _).mono ?_); rintro e w1 ⟨rfl, rfl⟩)
        | ((with_reducible refine (k3 _ (Below.refl _ _)).mono ?_); rintro e w1 ⟨rfl, rfl⟩)
        | fail)
       go_ret
       exact ⟨by rw [HB.out]; rfl, Below.refl _ _⟩
     | true =>
       by_cases c0 : m < 0
       ·have g0 : decide (m < 0) = true := decide_eq_true c0
        have HB := Lib.hid (extB_bad (m := m) (n := n) (P := P) (o := x) (r := r) (by unfold extBad; simp [c0]))
        simp only [d1, d2, d3] at k1 k2 k3
        clear d1 d2 d3 hR k5 c0 hl hl'
        go_enter Tryz.func86, Tryz.ntmps86
        go_wp2_with (first
         | ((with_reducible refine (k1 _).mono ?_); rintro e w1 ⟨rfl, rfl⟩)
         | ((with_reducible refine (k2 _).mono ?_); rintro e w1 ⟨rfl, rfl⟩)
         | ((with_reducible refine (k3 _ (Below.refl _ _)).mono ?_); rintro e w1 ⟨rfl, rfl⟩)
         | fail)
        go_ret
        exact ⟨by rw [HB.out]; rfl, Below.refl _ _⟩
       have g0 : decide (m < 0) = false := decide_eq_false c0
       by_cases c1 : m > n
       ·have g1 : decide (m > n) = true := decide_eq_true c1
        have HB := Lib.hid (extB_bad (m := m) (n := n) (P := P) (o := x) (r := r) (by unfold extBad; simp [c1]))
        simp only [d1, d2, d3] at k1 k2 k3
        clear d1 d2 d3 hR k5 c1 c0 hl hl'
        go_enter Tryz.func86, Tryz.ntmps86
        go_wp2_with (first
         | ((with_reducible refine (k1 _).mono ?_); rintro e w1 ⟨rfl, rfl⟩)
         | ((with_reducible refine (k2 _).mono ?_); rintro e w1 ⟨rfl, rfl⟩)
         | ((with_reducible refine (k3 _ (Below.refl _ _)).mono ?_); rintro e w1 ⟨rfl, rfl⟩)
         | fail)
        go_ret
        exact ⟨by rw [HB.out]; rfl, Below.refl _ _⟩
       have g1 : decide (m > n) = false := decide_eq_false c1
       by_cases c2 : n > 4096
       ·have g2 : decide (n > 4096) = true := decide_eq_true c2
        have HB := Lib.hid (extB_bad (m := m) (n := n) (P := P) (o := x) (r := r) (by unfold extBad; simp [c2]))
        simp only [d1, d2, d3] at k1 k2 k3
        clear d1 d2 d3 hR k5 c2 c0 c1 hl hl'
        go_enter Tryz.func86, Tryz.ntmps86
        go_wp2_with (first
         | ((with_reducible refine (k1 _).mono ?_); rintro e w1 ⟨rfl, rfl⟩)
         | ((with_reducible refine (k2 _).mono ?_); rintro e w1 ⟨rfl, rfl⟩)
         | ((with_reducible refine (k3 _ (Below.refl _ _)).mono ?_); rintro e w1 ⟨rfl, rfl⟩)
         | fail)
        go_ret
        exact ⟨by rw [HB.out]; rfl, Below.refl _ _⟩
       have g2 : decide (n > 4096) = false := decide_eq_false c2
       obtain ⟨a, rfl⟩ : ∃ a : Nat, m = a := ⟨m.toNat, by omega⟩
       obtain ⟨b, rfl⟩ : ∃ b : Nat, n = b := ⟨n.toNat, by omega⟩
       have hz : extBad a b x r P = false := by unfold extBad; simp [d1, d2, d3, hl]; omega
       have q1 : (b : Int) ≤ 4096 := by omega
       have q2 : (a : Int) ≤ (b : Int) := by omega
       have q3 : decide ((a : Int) < 0) = false := by rw [decide_eq_false_iff_not]; omega
       have q4 : decide ((b : Int) < (a : Int)) = false := by rw [decide_eq_false_iff_not]; omega
       have q6 : decide ((4096 : Int) < (b : Int)) = false := by rw [decide_eq_false_iff_not]; omega
       have hx0 : ¬ x = [] := fun e => by (rw [e] at d1; cases d1)
       by_cases h0 : a = 0
       ·subst h0
        have hib : extB ((0 : Nat) : Int) b x r P = (((P.length : Int) == 0) && (x == Sh.sha []) && (decide ((b : Int) > 0) || (r == Sh.sha []))) := by
         unfold extB
         rw [hz, ← isEmpty_len]
         rfl
        rw [hib]
        generalize Sh.sha [] = Z at k5 ⊢
        have k5' : ∀ W, Calls Tryz.prog 94 #[.string ⟨#[]⟩] W fun e w' => e = .returned (.string ⟨Z.toArray⟩) ∧ Below W.heap.size W w' := k5
        simp only [d1, d2, d3] at k1 k2 k3
        clear d1 d2 d3 hR c0 c1 c2 hib hz k5 hx0 hl hl'
        have t1 : (((0 : Nat) : Int) == 0) = true := rfl
        cases e1 : ((P.length : Int) == 0) with
        | false =>
          go_enter Tryz.func86, Tryz.ntmps86
          go_wp2_with (first
           | ((with_reducible refine (k1 _).mono ?_); rintro e w1 ⟨rfl, rfl⟩)
           | ((with_reducible refine (k2 _).mono ?_); rintro e w1 ⟨rfl, rfl⟩)
           | ((with_reducible refine (k3 _ (Below.refl _ _)).mono ?_); rintro e w1 ⟨rfl, rfl⟩)
           | fail)
          go_ret
          exact ⟨by rfl, Below.refl _ _⟩
        | true =>
          cases e2 : (x == Z) with
          | false =>
            go_enter Tryz.func86, Tryz.ntmps86
            go_wp2_with (first
             | ((with_reducible refine (k1 _).mono ?_); rintro e w1 ⟨rfl, rfl⟩)
             | ((with_reducible refine (k2 _).mono ?_); rintro e w1 ⟨rfl, rfl⟩)
             | ((with_reducible refine (k3 _ (Below.refl _ _)).mono ?_); rintro e w1 ⟨rfl, rfl⟩)
             | fail)
            refine (k5' _).mono ?_
            rintro e w4 ⟨rfl, b4⟩
            go_wp2
            go_ret
            exact ⟨by rfl, b4⟩
          | true =>
            obtain rfl : x = Z := beq_iff_eq.1 e2
            by_cases e3 : b = 0
            ·subst e3
             cases e5 : (r == x)
             all_goals
              go_enter Tryz.func86, Tryz.ntmps86
              go_wp2_with (first
               | ((with_reducible refine (k1 _).mono ?_); rintro e w1 ⟨rfl, rfl⟩)
               | ((with_reducible refine (k2 _).mono ?_); rintro e w1 ⟨rfl, rfl⟩)
               | ((with_reducible refine (k3 _ (Below.refl _ _)).mono ?_); rintro e w1 ⟨rfl, rfl⟩)
               | fail)
              refine (k5' _).mono ?_
              rintro e w4 ⟨rfl, b4⟩
              go_wp2
              go_ret
              exact ⟨by rfl, b4⟩
            ·have e4 : decide ((b : Int) > 0) = true := by simp; omega
             go_enter Tryz.func86, Tryz.ntmps86
             go_wp2_with (first
              | ((with_reducible refine (k1 _).mono ?_); rintro e w1 ⟨rfl, rfl⟩)
              | ((with_reducible refine (k2 _).mono ?_); rintro e w1 ⟨rfl, rfl⟩)
              | ((with_reducible refine (k3 _ (Below.refl _ _)).mono ?_); rintro e w1 ⟨rfl, rfl⟩)
              | fail)
             refine (k5' _).mono ?_
             rintro e w4 ⟨rfl, b4⟩
             go_wp2
             go_ret
             exact ⟨by rw [e4]; rfl, b4⟩
       ·have t1 : ((a : Int) == 0) = false := by rw [beq_eq_false_iff_ne]; omega
        have hib : extB a b x r P = ((Mk.rd a b x P).2 && ((Mk.rd a b x P).1.1 == x && (Mk.rd a b x P).1.2 == r)) := by
         unfold extB
         rw [hz, if_neg (by omega)]
         rfl
        by_cases hab : a = b
        ·subst hab
         rw [hib, Mk.rd_same, if_pos hx0, isEmpty_len]
         dsimp only
         rw [beq_self_eq_true, Bool.true_and]
         simp only [d1, d2, d3] at k1 k2 k3
         clear d1 d2 d3 hR c0 c1 c2 hib hz k5 hx0 hl hl' h0
         cases e1 : ((P.length : Int) == 0)
         all_goals
          go_enter Tryz.func86, Tryz.ntmps86
          go_wp2_with (first
           | ((with_reducible refine (k1 _).mono ?_); rintro e w1 ⟨rfl, rfl⟩)
           | ((with_reducible refine (k2 _).mono ?_); rintro e w1 ⟨rfl, rfl⟩)
           | ((with_reducible refine (k3 _ (Below.refl _ _)).mono ?_); rintro e w1 ⟨rfl, rfl⟩)
           | fail)
          go_ret
          exact ⟨rfl, Below.refl _ _⟩
        ·have t2 : ((a : Int) == (b : Int)) = false := by rw [beq_eq_false_iff_ne]; omega
         have k4 := fun W hb => rread_spec b A P x true a c W hx0 (by omega) (by omega) (by omega) (hR.below hb) hc hm
         rw [if_pos rfl] at k4
         rw [hib]
         generalize Mk.rd a b x P = G at k4 ⊢
         obtain ⟨⟨O, W9⟩, ok⟩ := G
         unfold BoP at k4
         dsimp only at k4 ⊢
         simp only [d1, d2, d3] at k1 k2 k3
         clear d1 d2 d3 hR c0 c1 c2 hib hz k5 hx0 hl hl' h0 hab
         go_enter Tryz.func86, Tryz.ntmps86
         go_wp2_with (first
          | ((with_reducible refine (k1 _).mono ?_); rintro e w1 ⟨rfl, rfl⟩)
          | ((with_reducible refine (k2 _).mono ?_); rintro e w1 ⟨rfl, rfl⟩)
          | ((with_reducible refine (k3 _ (Below.refl _ _)).mono ?_); rintro e w1 ⟨rfl, rfl⟩)
          | fail)
         refine (k4 _ (Below.refl _ _)).mono ?_
         rintro e w5 ⟨rfl, b5⟩
         have b7 := b5.alloc b5.size (.cells #[.string ⟨O.toArray⟩, .string ⟨W9.toArray⟩, .bool ok] 161)
         have bb := Blk.new w5 161 #[.string ⟨O.toArray⟩, .string ⟨W9.toArray⟩, .bool ok]
         have bc0 := bb.cell 0
         have bc1 := bb.cell 1
         have bc2 := bb.cell 2
         clear k4 bb
         cases ok
         ·go_wp2
          go_ret
          exact ⟨rfl, b7⟩
         ·by_cases hO : O = x
          ·subst hO
           by_cases hW : W9 = r
           ·subst hW
            go_wp2
            go_ret
            exact ⟨by simp, b7⟩
           ·have f2 : (W9 == r) = false := beq_eq_false_iff_ne.2 hW
            go_wp2
            go_ret
            exact ⟨by rw [f2]; simp, b7⟩
          ·have f1 : (O == x) = false := beq_eq_false_iff_ne.2 hO
           go_wp2
           go_ret
           exact ⟨by rw [f1]; rfl, b7⟩
end Go.Proofs.YtjjpdnpbhdcpbaaGreat
