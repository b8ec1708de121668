/-
  The example that each statement checks first. Conditions: none.
-/
import Derived.Test.YtiklfjehhdbhfaaMkQ
import Derived.Test.YtiklfjehhdbhfaaShFast
import Derived.Test.YtiklfjehhdbhfaaShAw
namespace Go.Proofs.Ytiklfjehhdbhfaa
set_option linter.unusedVariables false
open Go.RowKit

namespace Sh
theorem pre_zero : ([110, 52, 11, 156] : Str).isPrefixOf (sha [0]) = true := by
  have h := sha_one (fun x => ([110, 52, 11, 156] : Str).isPrefixOf x) [0] 8388608 0 0 0 0 0 0 0 0 0 0 0 0 0 0 8 (by decide +kernel) (by decide +kernel)
  exact h.symm.trans (by kernel_rfl)
theorem pre_nil : ([227, 176, 196, 66] : Str).isPrefixOf (sha []) = true := by
  have h := sha_one (fun x => ([227, 176, 196, 66] : Str).isPrefixOf x) [] 2147483648 0 0 0 0 0 0 0 0 0 0 0 0 0 0 0 (by decide +kernel) (by decide +kernel)
  exact h.symm.trans (by kernel_rfl)
end Sh
theorem mk_some {w : World} {base : Nat} {e : TypeId} {size n l c : Nat} {A : Option Addr} {xs : List Value} (h : w.ownsRow base e size (.slice A l c) n xs) (hn : 0 < n) : ∃ g, A = some ⟨g, 0, none⟩ ∧ g < w.heap.size := by
  rcases h.2 with ⟨h2, h3⟩ | ⟨g, cap, cur, hv, _, hg, _⟩
  · omega
  · injection hv with hv _ _
    exact ⟨g, hv, (Array.getElem?_eq_some_iff.1 hg).1⟩
theorem awk_split : Mk.split 3 = 2 := Mk.split_unique (by omega) 1 (by decide) (by omega) (by omega)
theorem awk_split2 : Mk.split 2 = 1 := Mk.split_unique (by omega) 0 (by decide) (by omega) (by omega)
theorem awk_depth2 : Mk.depth 2 3 = 1 := by rw [Mk.depth_right 2 3 (by omega) (by rw [awk_split]; omega), awk_split, Mk.depth_one _ _ (by omega)]
theorem awk_depth0 : Mk.depth 0 3 = 2 := by rw [Mk.depth_left 0 3 (by omega) (by rw [awk_split]; omega), awk_split, Mk.depth_left 0 2 (by omega) (by rw [awk_split2]; omega), awk_split2, Mk.depth_one _ _ (by omega)]
theorem awk_cons (a b c : Mk.Str) : Mk.cons [a, b, c] 2 true = [c] := by
  have hs : Mk.split ([a, b, c] : List Mk.Str).length = 2 := awk_split
  rw [Mk.cons_left _ _ _ (by simp) (by simp) (by rw [hs]; omega), hs]
  show Mk.cons [a, b] 2 true ++ [Mk.root [c]] = [c]
  rw [Mk.root_one, show Mk.cons [a, b] 2 true = [] from Mk.cons_whole [a, b] true]
  rfl
theorem awk_root2 (a b : Mk.Str) : Mk.root [a, b] = Mk.node a b := by
  have hs : Mk.split ([a, b] : List Mk.Str).length = 1 := awk_split2
  rw [Mk.root_split _ (by simp), hs]
  show Mk.node (Mk.root [a]) (Mk.root [b]) = _
  rw [Mk.root_one, Mk.root_one]
theorem awk_tones : Mk.tones 0 = 0 := Mk.tones_even 0 (by decide)
theorem awk_ones1 : Mk.ones 1 = 1 := by rw [Mk.ones_half, Mk.ones_zero]
theorem awk_ap (x : Mk.Str) (h : x.length = 32) : apB 0 [] x = ((1, [x]), 0) := by
  unfold apB
  have : fwB 0 [] = true := by unfold fwB; simp [Mk.ones_zero]; rfl
  rw [this, decide_eq_true h, Bool.true_and, if_pos rfl, if_neg (by decide)]
  have : Mk.grow [] x (0 : Int).toNat = [x] := by unfold Mk.grow; simp
  rw [this]
  rfl
theorem awk_fr (x : Mk.Str) (h : x.length = 32) : frB 1 [x] = (x, 0) := by
  unfold frB
  have : fwB 1 [x] = true := by
    unfold fwB
    rw [show (1 : Int).toNat = 1 from rfl, awk_ones1, vld_of (Mk.AllD.one h)]
    rfl
  rw [this, if_pos rfl]
  rfl
set_option maxRecDepth 20000 in
set_option maxHeartbeats 4000000 in
theorem awake_mk (w : World) : Calls Try.prog 9 #[] w fun e w' => e = .returned (.bool true) ∧ Below w.heap.size w w' := by
  obtain ⟨W1, hW1⟩ : ∃ W1, w.alloc (.cells #[.string ⟨#[97]⟩, .string ⟨#[98]⟩, .string ⟨#[99]⟩] 9) = W1 := ⟨_, rfl⟩
  have bW : Below w.heap.size w W1 := by rw [← hW1]; exact (Below.refl _ w).alloc (Nat.le_refl _) _
  have hR0 : Rd W1 (some ⟨w.heap.size, 0, none⟩) (strs [[97], [98], [99]]) := by rw [← hW1]; exact rd_new w #[.string ⟨#[97]⟩, .string ⟨#[98]⟩, .string ⟨#[99]⟩] 9
  have kl := leaves_spec (some ⟨w.heap.size, 0, none⟩) [[97], [98], [99]] 3 W1 hR0 (by decide)
  have la : (Mk.leaf [97]).length = 32 := Sh.sha_length _
  have lb : (Mk.leaf [98]).length = 32 := Sh.sha_length _
  have lc : (Mk.leaf [99]).length = 32 := Sh.sha_length _
  rw [show ([[97], [98], [99]] : List Mk.Str).map Mk.leaf = [Mk.leaf [97], Mk.leaf [98], Mk.leaf [99]] from rfl] at kl
  generalize Mk.leaf [97] = a at kl la
  generalize Mk.leaf [98] = b at kl lb
  generalize Mk.leaf [99] = c at kl lc
  have hD : Mk.AllD [a, b, c] := fun x hx => by
    simp at hx
    rcases hx with rfl | rfl | rfl <;> assumption
  have e2 : mInc [a, b, c] 2 = (Mk.incl [a, b, c] 2, 0) := mInc_ok hD (by simp) 2 (by simp)
  have e0 : mInc [a, b, c] 0 = (Mk.incl [a, b, c] 0, 0) := mInc_ok hD (by simp) 0 (by simp)
  have ec : mCon [a, b, c] 2 = ([c], 0) := (mCon_ok hD (by simp) 2 (by omega) (by simp)).trans (by rw [awk_cons])
  have l2 : (Mk.incl [a, b, c] 2).length = 1 := (Mk.incl_length 3 [a, b, c] 2 rfl).trans awk_depth2
  have l0 : (Mk.incl [a, b, c] 0).length = 2 := (Mk.incl_length 3 [a, b, c] 0 rfl).trans awk_depth0
  have hinc : incB c 2 3 (Mk.incl [a, b, c] 2) (Mk.root [a, b, c]) = true := incB_ok hD (by simp) 2 (by simp)
  have hext : extB 2 3 (Mk.node a b) (Mk.root [a, b, c]) [c] = true := by
    have := extB_ok hD (by simp) 2 (by omega) (by simp)
    rw [awk_cons] at this
    rw [← awk_root2]
    exact this
  have kr3 := fun (A : Option Addr) (cc : Nat) (W : World) hR hc hm => root_mk A [a, b, c] cc W hR (by simp) hc hm
  rw [mRoot_ok hD (by simp)] at kr3
  have kr2 := fun (A : Option Addr) (cc : Nat) (W : World) hR hc hm => root_mk A [a, b] cc W hR (by simp) hc hm
  rw [mRoot_ok (show Mk.AllD [a, b] from hD.take 2) (by simp), awk_root2] at kr2
  have kr0 := fun (W : World) => root_mk none [] 0 W (Rd.nil _ _) (by simp) (by simp) (by simp)
  rw [mRoot_ok Mk.AllD.nil (by simp), Mk.root_nil] at kr0
  have kn := node_spec a b
  have kle := leaf_spec [] (by simp)
  have ki2 := fun (A : Option Addr) (cc : Nat) (W : World) hR hc hm => inc_mk A [a, b, c] cc 2 W hR (by simp) hc hm
  have ki0 := fun (A : Option Addr) (cc : Nat) (W : World) hR hc hm => inc_mk A [a, b, c] cc 0 W hR (by simp) hc hm
  have kc2 := fun (A : Option Addr) (cc : Nat) (W : World) hR hc hm => con_mk A [a, b, c] cc 2 W hR (by simp) hc hm
  rw [e2] at ki2
  rw [e0] at ki0
  rw [ec] at kc2
  have kp0 := fun W => hasprefix_spec (Mk.leaf []) [110, 52, 11, 156] (by rw [show (Mk.leaf []).length = 32 from Sh.sha_length _]; decide) (by decide) W
  have kp1 := fun W => hasprefix_spec (Sh.sha []) [227, 176, 196, 66] (by rw [show (Sh.sha []).length = 32 from Sh.sha_length _]; decide) (by decide) W
  rw [show ([110, 52, 11, 156] : Sh.Str).isPrefixOf (Mk.leaf []) = true from Sh.pre_zero] at kp0
  rw [Sh.pre_nil] at kp1
  have kap := fun (W : World) => append_spec 0 none [] 0 a W (Rd.nil _ _) (fun _ => ⟨rfl, rfl⟩) (by simp) (by simp) (by decide) (by decide)
  rw [awk_ap a la] at kap
  have kfr := fun (A : Option Addr) (cc : Nat) (W : World) hR hc => froot_spec 1 A [a] cc W hR (by simp) hc (by decide) (by decide)
  rw [awk_fr a la] at kfr
  generalize Mk.incl [a, b, c] 2 = P at *
  generalize Mk.incl [a, b, c] 0 = Q at *
  generalize Mk.root [a, b, c] = R at *
  generalize Mk.node a b = N2 at *
  generalize Mk.leaf [] = z at *
  generalize Sh.sha [] = y at *
  have HX := Lib.hid (And.intro hD (And.intro hW1 hR0))
  clear hD hR0 la lb lc e2 e0 ec
  go_enter Try.func9, Try.ntmps9
  go_wp2_with fail
  refine kl.mono ?_
  rintro e w1 ⟨A1, c1, rfl, hc1, hm1, t1⟩
  have hc3 : 3 ≤ c1 := hc1
  obtain ⟨g, rfl, hgl⟩ := mk_some t1.own (by simp)
  have h1 := ((St.nil w).under bW).join t1
  have hRl : ∀ W, Below w1.heap.size w1 W → Rd W (some ⟨g, 0, none⟩) (strs [a, b, c]) := fun W hb => (Rd.of_own t1.own).below hb
  have hcl : ∀ W, Below w1.heap.size w1 W → W.cell? ⟨g, 0, none⟩ = some (.string ⟨a.toArray⟩) ∧ W.cell? ⟨g, 1, none⟩ = some (.string ⟨b.toArray⟩) ∧ W.cell? ⟨g, 2, none⟩ = some (.string ⟨c.toArray⟩) := fun W hb => by
    have q : ∀ j (hj : j < 3), W.cell? ⟨g, 0 + j, none⟩ = some (.string ⟨([a, b, c] : List Mk.Str)[j].toArray⟩) := fun j hj => by
      obtain ⟨b', off', hA', h'⟩ := (hRl W hb).str (k := j) (by simpa using hj)
      cases hA'
      exact h'
    exact ⟨q 0 (by decide), q 1 (by decide), q 2 (by decide)⟩
  have HL := Lib.hid (And.intro hRl hcl)
  have H1 := Lib.hid h1
  clear h1 t1 kl hRl hcl hc1
  go_wp2_with fail
  refine (ki2 (some ⟨g, 0, none⟩) c1 w1 (HL.out.1 _ (Below.refl _ _)) hc3 hm1).mono ?_
  rintro e w2 ⟨v2, rfl, t2⟩
  have b2 := t2.below
  obtain ⟨A2, c2, rfl, hc2, hm2⟩ := own_form t2.own
  rw [l2] at hc2 t2 ⊢
  go_wp2_with fail
  refine (ki0 (some ⟨g, 0, none⟩) c1 w2 (HL.out.1 _ b2) hc3 hm1).mono ?_
  rintro e w3 ⟨v3, rfl, t3⟩
  have b3 := b2.trans (t3.below.mono b2.size)
  obtain ⟨A3, c3, rfl, hc3', hm3⟩ := own_form t3.own
  rw [l0] at ⊢
  go_wp2_with fail
  refine (kc2 (some ⟨g, 0, none⟩) c1 w3 (HL.out.1 _ b3) hc3 hm1).mono ?_
  rintro e w4 ⟨v4, rfl, t4⟩
  have b4 := b3.trans (t4.below.mono b3.size)
  obtain ⟨A4, c4, rfl, hc4, hm4⟩ := own_form t4.own
  have hRp : ∀ W, Below w4.heap.size w4 W → Rd W A2 (strs P) := fun W hb => ((Rd.of_own t2.own).below (t3.below.trans (t4.below.mono t3.below.size))).below hb
  have hRc : ∀ W, Below w4.heap.size w4 W → Rd W A4 (strs [c]) := fun W hb => (Rd.of_own t4.own).below hb
  have HP := Lib.hid (And.intro hRp hRc)
  have HT := Lib.hid (And.intro t2 (And.intro t3 t4))
  clear hRp hRc t2 t3 t4 ki2 ki0 kc2
  go_wp2_with fail
  refine (kle _).mono ?_
  rintro e w5 ⟨rfl, b5⟩
  go_wp2_with fail
  refine (kp0 _).mono ?_
  rintro e w6 ⟨rfl, rfl⟩
  go_wp2_with fail
  refine (kr0 _).mono ?_
  rintro e w6 ⟨rfl, b6⟩
  go_wp2_with fail
  refine (kp1 _).mono ?_
  rintro e w7 ⟨rfl, rfl⟩
  have b56 := b5.trans (b6.mono b5.size)
  have b16 := b4.trans (b56.mono b4.size)
  have i4 : (2 : Int) ≤ (c1 : Int) := by omega
  have i5 : (3 : Int) ≤ (c1 : Int) := by omega
  go_wp2_with fail
  refine (equal_spec A4 (some ⟨g, 2, none⟩) [c] [c] c4 (c1 - 2) w6 (HP.out.2 _ b56) (by have := rd_drop (HL.out.1 _ b16) 2; exact this) (by simp) (by simp)).mono ?_
  rintro e w7 ⟨rfl, nn, rfl⟩
  have hdc : decide ([c] = [c]) = true := decide_eq_true rfl
  have b17 := mk_drewB b16 nn
  have b47 := mk_drewB b56 nn
  obtain ⟨x0, x1, x2⟩ := HL.out.2 _ b17
  generalize w6.drewN nn = w7 at *
  go_wp2_with fail
  refine (kap _).mono ?_
  rintro e w8 ⟨v8, rfl, t8⟩
  obtain ⟨A8, c8, rfl, hc8, hm8⟩ := own_form t8.own
  have b18 := b17.trans (t8.below.mono b17.size)
  have hc8' : 1 ≤ c8 := hc8
  go_wp2_with fail
  have b9a := b18.alloc b18.size (.cells #[.int .i64 1, .slice A8 1 c8] 34)
  refine (kfr A8 c8 _ ((Rd.of_own t8.own).alloc _) hc8').mono ?_
  rintro e w9 ⟨rfl, b9⟩
  have b19 := b9a.trans (b9.mono b9a.size)
  have b48 := b47.trans (t8.below.mono b47.size)
  have b4a := b48.alloc b48.size (.cells #[.int .i64 1, .slice A8 1 c8] 34)
  have b49 := b4a.trans (b9.mono b4a.size)
  have y0 := b19.drew
  have p0 := b49.drew
  clear b47 b48 b4a b2 b3 b4 b5 b56 b16 b17 b18 b9a b9 b6 t8 x0 x1 x2
  have kR3 : ∀ W, Below w1.heap.size w1 W → Calls Try.prog 19 #[.slice (some ⟨g, 0, none⟩) 3 c1] W fun e w' => e = .returned (.string ⟨R.toArray⟩) ∧ Below W.heap.size W w' := fun W hb => kr3 _ _ W (HL.out.1 _ hb) hc3 hm1
  have kR2 : ∀ W, Below w1.heap.size w1 W → Calls Try.prog 19 #[.slice (some ⟨g, 0, none⟩) 2 c1] W fun e w' => e = .returned (.string ⟨N2.toArray⟩) ∧ Below W.heap.size W w' := fun W hb => kr2 _ _ W (rd_take (HL.out.1 _ hb) 2) (Nat.le_trans (show 2 ≤ 3 by omega) hc3) hm1
  have kI : ∀ W, Below w4.heap.size w4 W → Calls Try.prog 28 #[.string ⟨c.toArray⟩, .int .i64 2, .int .i64 3, .slice A2 1 c2, .string ⟨R.toArray⟩] W fun e w' => e = .returned (.bool true) ∧ Below W.heap.size W w' := fun W hb => by
    have := included_spec c 2 3 A2 P c2 R W (HP.out.1 _ hb) (by omega) hm2
    rw [l2, hinc] at this
    exact this
  have kE : ∀ W, Below w4.heap.size w4 W → Calls Try.prog 30 #[.int .i64 2, .int .i64 3, .string ⟨N2.toArray⟩, .string ⟨R.toArray⟩, .slice A4 1 c4] W fun e w' => e = .returned (.bool true) ∧ Below W.heap.size W w' := fun W hb => by
    have := extends_spec 2 3 N2 R A4 [c] c4 W (HP.out.2 _ hb) hc4 hm4
    rw [hext] at this
    exact this
  clear kr3 kr2 hinc hext kap kfr kp0 kp1 kr0 kle l0 l2 hdc
  go_wp2_with fail
  go_region_held3 (fun w' => w'.cell? ⟨g, 0, none⟩ = some (.string ⟨a.toArray⟩) ∧ w'.cell? ⟨g, 1, none⟩ = some (.string ⟨b.toArray⟩) ∧ w'.cell? ⟨g, 2, none⟩ = some (.string ⟨c.toArray⟩))
    (first
      | exact HL.out.2 _ y7
      | exact HL.out.2 _ y6
      | exact HL.out.2 _ y5
      | exact HL.out.2 _ y4
      | exact HL.out.2 _ y3
      | exact HL.out.2 _ y2
      | exact HL.out.2 _ y1
      | exact HL.out.2 _ y0
      | fail)
    (first
      | (with_reducible refine (kR3 _ y0).mono ?_
         rintro e u1 ⟨rfl, z1⟩
         have y1 := y0.trans (z1.mono y0.size)
         have p1 := p0.trans (z1.mono p0.size))
      | (with_reducible refine (kI _ p1).mono ?_
         rintro e u2 ⟨rfl, z2⟩
         have y2 := y1.trans (z2.mono y1.size)
         have p2 := p1.trans (z2.mono p1.size))
      | (with_reducible refine (kR2 _ y2).mono ?_
         rintro e u3 ⟨rfl, z3⟩
         have y3 := y2.trans (z3.mono y2.size)
         have p3 := p2.trans (z3.mono p2.size))
      | (with_reducible refine (kR3 _ y3).mono ?_
         rintro e u4 ⟨rfl, z4⟩
         have y4 := y3.trans (z4.mono y3.size)
         have p4 := p3.trans (z4.mono p3.size))
      | (with_reducible refine (kE _ p4).mono ?_
         rintro e u5 ⟨rfl, z5⟩
         have y5 := y4.trans (z5.mono y4.size)
         have p5 := p4.trans (z5.mono p4.size))
      | (with_reducible refine (kn _).mono ?_
         rintro e u6 ⟨rfl, z6⟩
         have y6 := y5.trans (z6.mono y5.size))
      | (with_reducible refine (kR2 _ y6).mono ?_
         rintro e u7 ⟨rfl, z7⟩
         have y7 := y6.trans (z7.mono y6.size))
      | fail)
  all_goals
    go_wp2
    go_ret
    exact ⟨rfl, H1.out.below.trans (y7.mono H1.out.below.size)⟩
end Go.Proofs.Ytiklfjehhdbhfaa
