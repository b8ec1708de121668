/-
  The reference's check of an inclusion proof. Conditions: none.
-/
import Derived.Test.YtjjpdnpbhdcpbaaGreatOPa
import Derived.Test.YtjjpdnpbhdcpbaaGreatQMkB
namespace Go.Proofs.YtjjpdnpbhdcpbaaGreat
set_option linter.unusedVariables false
open Go.RowKit Go.Shelf
attribute [local go_sem] Oper.semAt_some
def gvs (g : Mk.Str × Bool) : Mk.Str := if g.2 = true then g.1 else []
theorem gvs_left (g : Mk.Str × Bool) (q : Mk.Str) : Mk.node (gvs g) q = gvs (Mk.node g.1 q, g.2) := by
 obtain ⟨r, ok⟩ := g
 cases ok
 ·exact Mk.node_nil_left q
 ·rfl
theorem gvs_right (g : Mk.Str × Bool) (q : Mk.Str) : Mk.node q (gvs g) = gvs (Mk.node q g.1, g.2) := by
 obtain ⟨r, ok⟩ := g
 cases ok
 ·exact Mk.node_nil_right q
 ·rfl
set_option maxRecDepth 20000 in
set_option maxHeartbeats 4000000 in
theorem rgiven_spec : ∀ (n : Nat) (A : Option Addr) (P : List Mk.Str) (x : Mk.Str) (i c : Nat) (w : World), 1 ≤ n → n ≤ 1099511627776 → i < n → Rd w A (strs P) → P.length ≤ c → c ≤ maxLen →
 Calls Tryz.prog 160 #[.string ⟨x.toArray⟩, .int .i64 (i : Int), .int .i64 (n : Int), .slice A P.length c] w fun e w' => e = .returned (.string ⟨(gvs (Mk.given x i n P)).toArray⟩) ∧ Below w.heap.size w w' := by
 intro n
 induction n using Nat.strongRecOn with
 | _ n ih =>
   intro A P x i c w h1 hn hi hR hc hm
   unfold maxLen at hm
   by_cases h2 : n < 2
   ·obtain rfl : n = 1 := by omega
    rw [Mk.given_one x i 1 P h2]
    clear hR ih
    by_cases hP0 : P.length = 0
    ·have hpe : P.isEmpty = true := by cases P with | nil => rfl | cons a l => cases hP0
     have hz : ¬ ((0 : Int) < (P.length : Int)) := by omega
     have hz2 : decide ((P.length : Int) > 0) = false := decide_eq_false (by omega)
     rw [hpe]
     show Calls _ _ _ _ fun e w' => e = .returned (.string ⟨x.toArray⟩) ∧ Below w.heap.size w w'
     go_enter Tryz.func160, Tryz.ntmps160
     go_wp2
     go_ret
     exact ⟨rfl, Below.refl _ _⟩
    ·have hpe : P.isEmpty = false := by cases P with | nil => exact absurd rfl hP0 | cons a l => rfl
     have hz : (0 : Int) < (P.length : Int) := by omega
     have hz2 : decide ((P.length : Int) > 0) = true := decide_eq_true (by omega)
     rw [hpe]
     show Calls _ _ _ _ fun e w' => e = .returned (.string ⟨([] : Mk.Str).toArray⟩) ∧ Below w.heap.size w w'
     go_enter Tryz.func160, Tryz.ntmps160
     go_wp2
     go_ret
     exact ⟨rfl, Below.refl _ _⟩
   have g1 : ((n : Int) == 1) = false := by rw [beq_eq_false_iff_ne]; omega
   rcases Mk.snoc_cases P with rfl | ⟨Q, q, rfl⟩
   ·rw [Mk.given_nil x i n (by omega)]
    clear hR ih
    go_enter Tryz.func160, Tryz.ntmps160
    go_wp2
    go_ret
    exact ⟨rfl, Below.refl _ _⟩
   ·have hlen : (Q ++ [q]).length = Q.length + 1 := by simp
    obtain ⟨b, off, hA, hcc0⟩ := hR.str (k := Q.length) (by rw [hlen]; omega)
    subst hA
    have hq : (Q ++ [q])[Q.length]'(by rw [hlen]; omega) = q := by simp
    have hcc : w.cell? ⟨b, off + Q.length, none⟩ = some (.string ⟨q.toArray⟩) := by
     rw [hcc0]; congr 3; exact congrArg List.toArray hq
    clear hcc0
    have hRQ : Rd w (some ⟨b, off, none⟩) (strs Q) := by
     have := rd_take hR Q.length
     rwa [List.take_left] at this
    rw [hlen] at hc ⊢
    have ks := fun W => (rsplit_spec n (by omega) hn W).mono (fun e w' h => And.intro h.1 h.2.symm)
    have hk0 := Mk.split_pos n
    have hk1 := Mk.split_lt (n := n) (by omega)
    have hgl := Mk.given_left x i n Q q (by omega)
    have hgr := Mk.given_right x i n Q q (by omega)
    obtain ⟨k, hk⟩ : ∃ k, Mk.split n = k := ⟨_, rfl⟩
    rw [hk] at ks hk0 hk1 hgl hgr
    obtain ⟨N, hN⟩ : ∃ N, Q.length = N := ⟨_, rfl⟩
    have kL : i < k → ∀ W, Below w.heap.size w W → Calls Tryz.prog 160 #[.string ⟨x.toArray⟩, .int .i64 (i : Int), .int .i64 (k : Int), .slice (some ⟨b, off, none⟩) N c] W fun e w' => e = .returned (.string ⟨(gvs (Mk.given x i k Q)).toArray⟩) ∧ Below W.heap.size W w' := fun hik W hb => by
     have := ih k hk1 (some ⟨b, off, none⟩) Q x i c W (by omega) (by omega) hik (hRQ.below hb) (by omega) (by unfold maxLen; omega)
     rwa [hN] at this
    have kR : ¬ i < k → ∀ W, Below w.heap.size w W → Calls Tryz.prog 160 #[.string ⟨x.toArray⟩, .int .i64 ((i - k : Nat) : Int), .int .i64 ((n - k : Nat) : Int), .slice (some ⟨b, off, none⟩) N c] W fun e w' => e = .returned (.string ⟨(gvs (Mk.given x (i - k) (n - k) Q)).toArray⟩) ∧ Below W.heap.size W w' := fun hik W hb => by
     have := ih (n - k) (by omega) (some ⟨b, off, none⟩) Q x (i - k) c W (by omega) (by omega) (by omega) (hRQ.below hb) (by omega) (by unfold maxLen; omega)
     rwa [hN] at this
    rw [hN] at hcc hc ⊢
    have HX := Lib.hid (And.intro hN (And.intro hk (And.intro hR hRQ)))
    clear hR hRQ hN hk ih hq hlen
    have p0 : (((N + 1 : Nat) : Int) == 0) = false := by rw [beq_eq_false_iff_ne]; omega
    have p00 : ((N : Int) + 1 == 0) = false := by rw [beq_eq_false_iff_ne]; omega
    have p1 : IntKind.i64.wrap (N : Int) = (N : Int) := by rw [IntWalk.i64_left, IntWalk.wrap64_in _ (by omega)]
    have p2 : (0 : Int) ≤ (N : Int) := by omega
    have p3 : (N : Int) < (N : Int) + 1 := by omega
    have p4 : (N : Int) ≤ (c : Int) := by omega
    have p5 : (N : Int) + 1 ≤ (c : Int) := by omega
    have y0 : Below w.heap.size w w.drew := (Below.refl _ w).drew
    have X0 := Lib.hid hcc
    by_cases hik : i < k
    ·have g2 : decide ((i : Int) < (k : Int)) = true := by simp; omega
     have hg := hgl hik
     have k2 := kL hik
     clear hgl hgr kL kR
     rw [hg, ← gvs_left]
     generalize Mk.given x i k Q = G at k2 ⊢
     have k3 := fun W => rnode_spec (gvs G) q W
     generalize gvs G = R at k2 k3 ⊢
     generalize Mk.node R q = R2 at k3 ⊢
     go_enter Tryz.func160, Tryz.ntmps160
     go_wp2_with fail
     refine (ks _).mono ?_
     rintro e w1 ⟨rfl, rfl⟩
     go_wp2_with fail
     refine wp_region_noPanic ?_
     refine wp_region_held_drew (S := (fun w' => w'.cell? ⟨b, off + N, none⟩ = some (.string ⟨q.toArray⟩))) (by kernel_rfl) ?_ (fun hH0 => ?_)
     ·exact hcc
     refine tk 0 28 hH0 ?_
     refine tk 1 29 hH0 ?_
     refine tk 2 30 hH0 ?_
     refine tk 3 31 hH0 ?_
     refine tk 4 32 hH0 ?_
     refine tk 5 33 hH0 ?_
     refine tk 7 35 hH0 ?_
     refine tk 8 36 hH0 ?_
     refine tk 9 37 hH0 ?_
     refine tk 10 38 hH0 ?_
     refine rdy [6] ?_
     refine an 34 fun K hK => ?_
     go_simp; (
      with_reducible refine (k2 _ y0).mono ?_
      rintro e v1 ⟨rfl, b1⟩
      have y1 := y0.trans (b1.mono y0.size)); go_wp2_with fail
     refine hK.out _ _ ?_ (fun hH1 => ?_)
     ·exact below_cell y1 X0.out
     clear hK K hH0
     try simp only [pu]
     refine rdy [11] ?_
     refine an 39 fun K hK => ?_
     go_simp; (
      with_reducible refine (k3 _).mono ?_
      rintro e v2 ⟨rfl, b2⟩
      have y2 := y1.trans (b2.mono y1.size)); go_wp2_with fail
     refine hK.out _ _ ?_ (fun hH2 => ?_)
     ·exact below_cell y2 X0.out
     clear hK K hH1
     try simp only [pu]
     refine tk 12 8 hH2 ?_
     refine dn ?_ _
     all_goals (refine NoPanic.normal ?_)
     go_wp2
     go_ret
     exact ⟨rfl, y2⟩
    ·have g2 : decide ((i : Int) < (k : Int)) = false := by simp; omega
     have hg := hgr hik
     have k2 := kR hik
     clear hgl hgr kL kR
     rw [hg, ← gvs_right]
     generalize Mk.given x (i - k) (n - k) Q = G at k2 ⊢
     have k3 := fun W => rnode_spec q (gvs G) W
     generalize gvs G = R at k2 k3 ⊢
     generalize Mk.node q R = R2 at k3 ⊢
     have j1 : (i : Int) - (k : Int) = ((i - k : Nat) : Int) := by omega
     have j2 : (n : Int) - (k : Int) = ((n - k : Nat) : Int) := by omega
     have j3 : IntKind.i64.wrap ((i - k : Nat) : Int) = ((i - k : Nat) : Int) := by rw [IntKind.wrap_i64]; omega
     have j4 : IntKind.i64.wrap ((n - k : Nat) : Int) = ((n - k : Nat) : Int) := by rw [IntKind.wrap_i64]; omega
     generalize i - k = i' at k2 j1 j3
     generalize n - k = n' at k2 j2 j4
     go_enter Tryz.func160, Tryz.ntmps160
     go_wp2_with fail
     refine (ks _).mono ?_
     rintro e w1 ⟨rfl, rfl⟩
     go_wp2_with fail
     refine wp_region_noPanic ?_
     refine wp_region_held_drew (S := (fun w' => w'.cell? ⟨b, off + N, none⟩ = some (.string ⟨q.toArray⟩))) (by kernel_rfl) ?_ (fun hH0 => ?_)
     ·exact hcc
     refine tk 0 40 hH0 ?_
     refine tk 1 41 hH0 ?_
     refine tk 2 42 hH0 ?_
     refine tk 3 43 hH0 ?_
     refine tk 4 44 hH0 ?_
     refine tk 5 45 hH0 ?_
     refine tk 6 46 hH0 ?_
     refine tk 7 47 hH0 ?_
     refine tk 8 48 hH0 ?_
     refine tk 9 49 hH0 ?_
     refine tk 10 50 hH0 ?_
     refine tk 11 51 hH0 ?_
     refine tk 12 52 hH0 ?_
     refine tk 13 53 hH0 ?_
     refine rdy [14] ?_
     refine an 54 fun K hK => ?_
     go_simp; (
      with_reducible refine (k2 _ y0).mono ?_
      rintro e v1 ⟨rfl, b1⟩
      have y1 := y0.trans (b1.mono y0.size)); go_wp2_with fail
     refine hK.out _ _ ?_ (fun hH1 => ?_)
     ·exact below_cell y1 X0.out
     clear hK K hH0
     try simp only [pu]
     refine rdy [15] ?_
     refine an 55 fun K hK => ?_
     go_simp; (
      with_reducible refine (k3 _).mono ?_
      rintro e v2 ⟨rfl, b2⟩
      have y2 := y1.trans (b2.mono y1.size)); go_wp2_with fail
     refine hK.out _ _ ?_ (fun hH2 => ?_)
     ·exact below_cell y2 X0.out
     clear hK K hH1
     try simp only [pu]
     refine tk 16 8 hH2 ?_
     refine dn ?_ _
     all_goals (refine NoPanic.normal ?_)
     go_wp2
     go_ret
     exact ⟨rfl, y2⟩
def rincBad (x : Mk.Str) (i n : Int) (P : List Mk.Str) (r : Mk.Str) : Bool := !decide (x.length = 32) || !decide (r.length = 32) || !(vld P) || decide (n < 1) || decide (n > 4096) || decide (i < 0) || decide (i ≥ n)
def rincB (x : Mk.Str) (i n : Int) (P : List Mk.Str) (r : Mk.Str) : Bool := !rincBad x i n P r && (gvs (Mk.given x i.toNat n.toNat P) == r)
theorem rincB_bad {x : Mk.Str} {i n : Int} {P : List Mk.Str} {r : Mk.Str} (h : rincBad x i n P r = true) : rincB x i n P r = false := by unfold rincB; rw [h]; rfl
set_option maxRecDepth 20000 in
set_option maxHeartbeats 4000000 in
theorem rincluded_spec (x : Mk.Str) (i n : Int) (A : Option Addr) (P : List Mk.Str) (c : Nat) (r : Mk.Str) (w : World) (hR : Rd w A (strs P)) (hc : P.length ≤ c) (hm : c ≤ maxLen) :
 Calls Tryz.prog 116 #[.string ⟨x.toArray⟩, .int .i64 i, .int .i64 n, .slice A P.length c, .string ⟨r.toArray⟩] w fun e w' => e = .returned (.bool (rincB x i n P r)) ∧ Below w.heap.size w w' := by
 have k1 := rdigest_spec x
 have k2 := rdigest_spec r
 have k3 := fun W hb => digests_spec A P c W (hR.below hb) (by unfold maxLen at hm; omega)
 cases d1 : (decide (x.length = 32)) with
 | false =>
   have HB := Lib.hid (rincB_bad (i := i) (n := n) (P := P) (x := x) (r := r) (by unfold rincBad; simp [d1]))
   simp only [d1] at k1
   clear d1 hR
   go_enter Tryz.func116, Tryz.ntmps116
   go_wp2_with (first
    | ((with_reducible refine (k1 _).mono ?_); rintro e w1 ⟨rfl, rfl⟩)
    | ((with_reducible refine (k2 _).mono ?_); rintro e w1 ⟨rfl, rfl⟩)
    | ((with_reducible refine (k3 _ (Below.refl _ _)).mono ?_); rintro e w1 ⟨rfl, rfl⟩)
    | fail)
   go_ret
   exact ⟨by rw [HB.out]; rfl, Below.refl _ _⟩
 | true =>
   cases d2 : (decide (r.length = 32)) with
   | false =>
     have HB := Lib.hid (rincB_bad (i := i) (n := n) (P := P) (x := x) (r := r) (by unfold rincBad; simp [d2, d1]))
     simp only [d2, d1] at k1 k2
     clear d2 d1 hR
     go_enter Tryz.func116, Tryz.ntmps116
     go_wp2_with (first
      | ((with_reducible refine (k1 _).mono ?_); rintro e w1 ⟨rfl, rfl⟩)
      | ((with_reducible refine (k2 _).mono ?_); rintro e w1 ⟨rfl, rfl⟩)
      | ((with_reducible refine (k3 _ (Below.refl _ _)).mono ?_); rintro e w1 ⟨rfl, rfl⟩)
      | fail)
     go_ret
     exact ⟨by rw [HB.out]; rfl, Below.refl _ _⟩
   | true =>
     cases d3 : (vld P) with
     | false =>
       have HB := Lib.hid (rincB_bad (i := i) (n := n) (P := P) (x := x) (r := r) (by unfold rincBad; simp [d3, d1, d2]))
       simp only [d3, d1, d2] at k1 k2 k3
       clear d3 d1 d2 hR
       go_enter Tryz.func116, Tryz.ntmps116
       go_wp2_with (first
        | ((with_reducible refine (k1 _).mono ?_); rintro e w1 ⟨rfl, rfl⟩)
        | ((with_reducible refine (k2 _).mono ?_); rintro e w1 ⟨rfl, rfl⟩)
        | ((with_reducible refine (k3 _ (Below.refl _ _)).mono ?_); rintro e w1 ⟨rfl, rfl⟩)
        | fail)
       go_ret
       exact ⟨by rw [HB.out]; rfl, Below.refl _ _⟩
     | true =>
       by_cases c0 : n < 1
       ·have g0 : decide (n < 1) = true := decide_eq_true c0
        have HB := Lib.hid (rincB_bad (i := i) (n := n) (P := P) (x := x) (r := r) (by unfold rincBad; simp [c0]))
        simp only [d1, d2, d3] at k1 k2 k3
        clear d1 d2 d3 hR c0
        go_enter Tryz.func116, Tryz.ntmps116
        go_wp2_with (first
         | ((with_reducible refine (k1 _).mono ?_); rintro e w1 ⟨rfl, rfl⟩)
         | ((with_reducible refine (k2 _).mono ?_); rintro e w1 ⟨rfl, rfl⟩)
         | ((with_reducible refine (k3 _ (Below.refl _ _)).mono ?_); rintro e w1 ⟨rfl, rfl⟩)
         | fail)
        go_ret
        exact ⟨by rw [HB.out]; rfl, Below.refl _ _⟩
       have g0 : decide (n < 1) = false := decide_eq_false c0
       by_cases c1 : n > 4096
       ·have g1 : decide (n > 4096) = true := decide_eq_true c1
        have HB := Lib.hid (rincB_bad (i := i) (n := n) (P := P) (x := x) (r := r) (by unfold rincBad; simp [c1]))
        simp only [d1, d2, d3] at k1 k2 k3
        clear d1 d2 d3 hR c1 c0
        go_enter Tryz.func116, Tryz.ntmps116
        go_wp2_with (first
         | ((with_reducible refine (k1 _).mono ?_); rintro e w1 ⟨rfl, rfl⟩)
         | ((with_reducible refine (k2 _).mono ?_); rintro e w1 ⟨rfl, rfl⟩)
         | ((with_reducible refine (k3 _ (Below.refl _ _)).mono ?_); rintro e w1 ⟨rfl, rfl⟩)
         | fail)
        go_ret
        exact ⟨by rw [HB.out]; rfl, Below.refl _ _⟩
       have g1 : decide (n > 4096) = false := decide_eq_false c1
       by_cases c2 : i < 0
       ·have g2 : decide (i < 0) = true := decide_eq_true c2
        have HB := Lib.hid (rincB_bad (i := i) (n := n) (P := P) (x := x) (r := r) (by unfold rincBad; simp [c2]))
        simp only [d1, d2, d3] at k1 k2 k3
        clear d1 d2 d3 hR c2 c0 c1
        go_enter Tryz.func116, Tryz.ntmps116
        go_wp2_with (first
         | ((with_reducible refine (k1 _).mono ?_); rintro e w1 ⟨rfl, rfl⟩)
         | ((with_reducible refine (k2 _).mono ?_); rintro e w1 ⟨rfl, rfl⟩)
         | ((with_reducible refine (k3 _ (Below.refl _ _)).mono ?_); rintro e w1 ⟨rfl, rfl⟩)
         | fail)
        go_ret
        exact ⟨by rw [HB.out]; rfl, Below.refl _ _⟩
       have g2 : decide (i < 0) = false := decide_eq_false c2
       by_cases c3 : i ≥ n
       ·have g3 : decide (i ≥ n) = true := decide_eq_true c3
        have HB := Lib.hid (rincB_bad (i := i) (n := n) (P := P) (x := x) (r := r) (by unfold rincBad; simp [c3]))
        simp only [d1, d2, d3] at k1 k2 k3
        clear d1 d2 d3 hR c3 c0 c1 c2
        go_enter Tryz.func116, Tryz.ntmps116
        go_wp2_with (first
         | ((with_reducible refine (k1 _).mono ?_); rintro e w1 ⟨rfl, rfl⟩)
         | ((with_reducible refine (k2 _).mono ?_); rintro e w1 ⟨rfl, rfl⟩)
         | ((with_reducible refine (k3 _ (Below.refl _ _)).mono ?_); rintro e w1 ⟨rfl, rfl⟩)
         | fail)
        go_ret
        exact ⟨by rw [HB.out]; rfl, Below.refl _ _⟩
       have g3 : decide (i ≥ n) = false := decide_eq_false c3
       obtain ⟨a, rfl⟩ : ∃ a : Nat, i = a := ⟨i.toNat, by omega⟩
       obtain ⟨b, rfl⟩ : ∃ b : Nat, n = b := ⟨n.toNat, by omega⟩
       have hib : rincB x a b P r = (gvs (Mk.given x a b P) == r) := by
        have hz : rincBad x a b P r = false := by unfold rincBad; simp [d1, d2, d3]; omega
        unfold rincB
        rw [hz]
        rfl
       have k4 := fun W hb => rgiven_spec b A P x a c W (by omega) (by omega) (by omega) (hR.below hb) hc hm
       rw [hib]
       generalize gvs (Mk.given x a b P) = R at k4 ⊢
       simp only [d1, d2, d3] at k1 k2 k3
       have q0 : (1 : Int) ≤ (b : Int) := by omega
       have q1 : (b : Int) ≤ 4096 := by omega
       have q2 : (a : Int) < (b : Int) := by omega
       have q3 : decide ((a : Int) < 0) = false := by rw [decide_eq_false_iff_not]; omega
       have q4 : decide ((b : Int) ≤ (a : Int)) = false := by rw [decide_eq_false_iff_not]; omega
       have q5 : decide ((b : Int) < 1) = false := by rw [decide_eq_false_iff_not]; omega
       have q6 : decide ((4096 : Int) < (b : Int)) = false := by rw [decide_eq_false_iff_not]; omega
       clear d1 d2 d3 hR c0 c1 c2 c3 hib
       go_enter Tryz.func116, Tryz.ntmps116
       go_wp2_with (first
        | ((with_reducible refine (k1 _).mono ?_); rintro e w1 ⟨rfl, rfl⟩)
        | ((with_reducible refine (k2 _).mono ?_); rintro e w1 ⟨rfl, rfl⟩)
        | ((with_reducible refine (k3 _ (Below.refl _ _)).mono ?_); rintro e w1 ⟨rfl, rfl⟩)
        | fail)
       refine (k4 _ (Below.refl _ _)).mono ?_
       rintro e w4 ⟨rfl, b4⟩
       go_wp2
       go_ret
       exact ⟨rfl, b4⟩
theorem depth_lt : ∀ (n i : Nat), 1 ≤ n → Mk.depth i n < n := by
 intro n
 induction n using Nat.strongRecOn with
 | _ n ih =>
   intro i h1
   by_cases h2 : n < 2
   ·rw [Mk.depth_one i n h2]; omega
   ·have hk0 := Mk.split_pos n
    have hk1 := Mk.split_lt (n := n) (by omega)
    by_cases hi : i < Mk.split n
    ·rw [Mk.depth_left i n (by omega) hi]
     have := ih (Mk.split n) hk1 i hk0
     omega
    ·rw [Mk.depth_right i n (by omega) hi]
     have := ih (n - Mk.split n) (by omega) (i - Mk.split n) (by omega)
     omega
theorem rincB_eq (x : Mk.Str) (i n : Int) (P : List Mk.Str) (r : Mk.Str) : rincB x i n P r = incB x i n P r := by
 unfold rincB incB
 cases hb : rincBad x i n P r with
 | true =>
   have : incBad x i n P r = true := by
    unfold rincBad at hb
    unfold incBad
    simp only [Bool.or_eq_true] at hb ⊢
    rcases hb with (((((h | h) | h) | h) | h) | h) | h
    ·exact .inl (.inl (.inl (.inl (.inl (.inl h)))))
    ·exact .inl (.inl (.inl (.inl (.inl (.inr h)))))
    ·refine .inl (.inl (.inl (.inl (.inr ?_))))
     cases hv : vld P with
     | true => rw [hv] at h; cases h
     | false => simp
    ·exact .inl (.inl (.inl (.inr h)))
    ·exact .inl (.inl (.inr h))
    ·exact .inl (.inr h)
    ·exact .inr h
   rw [this]
   rfl
 | false =>
   unfold rincBad at hb
   simp only [Bool.or_eq_false_iff, decide_eq_false_iff_not, Bool.not_eq_false'] at hb
   obtain ⟨⟨⟨⟨⟨⟨h1, h2⟩, h3⟩, h4⟩, h5⟩, h6⟩, h7⟩ := hb
   simp only [decide_eq_true_eq] at h1 h2
   have hgo := Mk.given_ok n.toNat x i.toNat P
   by_cases hp : P.length ≤ 4096
   ·have : incBad x i n P r = false := by
     unfold incBad
     simp only [Bool.or_eq_false_iff, decide_eq_false_iff_not, Bool.not_eq_false', Bool.and_eq_true, decide_eq_true_eq]
     exact ⟨⟨⟨⟨⟨⟨h1, h2⟩, hp, h3⟩, h4⟩, h5⟩, h6⟩, h7⟩
    rw [this]
    unfold gvs
    cases hg : (Mk.given x i.toNat n.toNat P).2 with
    | true => rfl
    | false =>
      have hr : (([] : Mk.Str) == r) = false := by
       cases r with
       | nil => cases h2
       | cons a l => rfl
      simp [hr]
   ·have : incBad x i n P r = true := by
     unfold incBad
     have : (decide (P.length ≤ 4096) && vld P) = false := by rw [decide_eq_false hp, Bool.false_and]
     rw [this]
     simp
    rw [this]
    have hd := depth_lt n.toNat i.toNat (by omega)
    rw [decide_eq_false (by omega)] at hgo
    unfold gvs
    rw [hgo]
    have hr : (([] : Mk.Str) == r) = false := by
     cases r with
     | nil => cases h2
     | cons a l => rfl
    simp [hr]
end Go.Proofs.YtjjpdnpbhdcpbaaGreat
