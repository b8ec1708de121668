/-
  MerkleHashes: the walk. Conditions: the arguments are small.
-/
import Derived.Test.YtiklfjehhdbhfaaMkR
namespace Go.Proofs.Ytiklfjehhdbhfaa
set_option linter.unusedVariables false
open Go.RowKit

set_option maxRecDepth 20000 in
set_option maxHeartbeats 4000000 in
theorem merkleHashes_walk (data other : Mk.Str) (A : Option Addr) (L : List Mk.Str) (c : Nat) (index old : Int) (w : World) (hd : data.length ≤ 1073741824) (ho : other.length ≤ 1073741824) (hR : Rd w A (strs L)) (hc : L.length ≤ c) (hm : c ≤ maxLen) (hp : weight L ≤ 1073741824) :
    Calls Try.prog 3 #[.string ⟨data.toArray⟩, .string ⟨other.toArray⟩, .slice A L.length c, .int .i64 index, .int .i64 old] w fun e w' => e = .returned (.bool true) ∧ Below w.heap.size w w' := by
  have hLl : L.length ≤ 1073741824 := by unfold weight at hp; omega
  have kF := fun W hb => mfew_spec A L c W (hR.below hb) (by omega)
  have kP := fun W hb => inc_mk A L c index W (hR.below hb) (by omega) hc hm
  have kQ := fun W hb => inc_rk A L c index W (hR.below hb) (by omega) hc hm
  have kC := fun W hb => con_mk A L c old W (hR.below hb) (by omega) hc hm
  have kD := fun W hb => con_rk A L c old W (hR.below hb) (by omega) hc hm
  have kR := fun W hb => root_mk A L c W (hR.below hb) (by omega) hc hm
  have kS := fun W hb => root_rk A L c W (hR.below hb) (by omega) hc hm
  have kl1 := leaf_spec data hd
  have kl2 := rleaf_spec data hd
  have kn1 := node_spec data other
  have kn2 := rnode_spec data other
  obtain ⟨fb, hfb⟩ : ∃ fb, fewB L = fb := ⟨_, rfl⟩
  rw [hfb] at kF
  have hl1 : (mInc L index).1.length ≤ 1073741825 := by
    unfold mInc
    split
    · split
      · simp
      · have := Mk.incl_length L.length L index.toNat rfl
        have := Mk.depth_le index.toNat L.length
        simp only
        omega
    · simp
  have hl2 : (mCon L old).1.length ≤ 1073741825 := by
    unfold mCon
    split
    · split
      · simp
      · split
        · simp
        · rename_i h1 h2 h3
          have := Mk.cons_length L.length L old.toNat true rfl (by omega) (by omega)
          have := cdepth_le old.toNat L.length true (by omega)
          simp only
          omega
    · simp
  generalize mInc L index = p at *
  generalize mCon L old = q at *
  generalize mRoot L = r at *
  generalize Mk.leaf data = l at *
  generalize Mk.node data other = n at *
  obtain ⟨p, pe⟩ := p
  obtain ⟨q, qe⟩ := q
  have HX := Lib.hid (And.intro hR hp)
  clear hR hp hfb
  go_enter Try.func3, Try.ntmps3
  go_wp2_with fail
  refine (awake_mk _).mono ?_
  rintro e w1 ⟨rfl, b1⟩
  by_cases hs : data.length + other.length > 2000
  · have g1 : decide ((data.length : Int) + (other.length : Int) > 2000) = true := by simp; omega
    go_wp2
    go_ret
    exact ⟨rfl, b1⟩
  have g1 : decide ((data.length : Int) + (other.length : Int) > 2000) = false := by simp; omega
  go_wp2_with fail
  refine (kF _ b1).mono ?_
  rintro e w' ⟨rfl, rfl⟩
  have hcase : fb = true ∨ (fb = false ∧ decide ((L.length : Int) ≤ 4096) = true) ∨ (fb = false ∧ decide ((L.length : Int) ≤ 4096) = false) := by
    cases fb
    · right
      cases decide ((L.length : Int) ≤ 4096)
      · exact .inr ⟨rfl, rfl⟩
      · exact .inl ⟨rfl, rfl⟩
    · exact .inl rfl
  have dp : decide (p = p) = true := decide_eq_true rfl
  have dq : decide (q = q) = true := decide_eq_true rfl
  rcases hcase with rfl | ⟨rfl, g2⟩ | ⟨rfl, g2⟩
  rotate_left 1
  · go_wp2
    go_ret
    exact ⟨rfl, b1⟩
  all_goals (
    go_wp2_with fail
    refine (kP _ b1).mono ?_
    rintro e w2 ⟨v2, rfl, t2⟩
    obtain ⟨A2, c2, rfl, hc2, hm2⟩ := own_form t2.own
    have b2 := b1.trans (t2.below.mono b1.size)
    go_wp2_with fail
    refine (kQ _ b2).mono ?_
    rintro e w3 ⟨v3, rfl, t3⟩
    obtain ⟨A3, c3, rfl, hc3, hm3⟩ := own_form t3.own
    have b3 := b2.trans (t3.below.mono b2.size)
    go_wp2_with fail
    refine (kC _ b3).mono ?_
    rintro e w4 ⟨v4, rfl, t4⟩
    obtain ⟨A4, c4, rfl, hc4, hm4⟩ := own_form t4.own
    have b4 := b3.trans (t4.below.mono b3.size)
    go_wp2_with fail
    refine (kD _ b4).mono ?_
    rintro e w5 ⟨v5, rfl, t5⟩
    obtain ⟨A5, c5, rfl, hc5, hm5⟩ := own_form t5.own
    have b5 := b4.trans (t5.below.mono b4.size)
    have b45 := t4.below.trans (t5.below.mono t4.below.size)
    have rp : ∀ W, Below w5.heap.size w5 W → Rd W A2 (strs p) := fun W hb => (Rd.of_own t2.own).below (t3.below.trans ((b45.trans (hb.mono (Nat.le_trans t4.below.size t5.below.size))).mono t3.below.size))
    have rq : ∀ W, Below w5.heap.size w5 W → Rd W A3 (strs p) := fun W hb => (Rd.of_own t3.own).below (b45.trans (hb.mono (Nat.le_trans t4.below.size t5.below.size)))
    have rc : ∀ W, Below w5.heap.size w5 W → Rd W A4 (strs q) := fun W hb => (Rd.of_own t4.own).below (t5.below.trans (hb.mono t5.below.size))
    have rd : ∀ W, Below w5.heap.size w5 W → Rd W A5 (strs q) := fun W hb => (Rd.of_own t5.own).below hb
    have HT := Lib.hid (And.intro rp (And.intro rq (And.intro rc rd)))
    clear rp rq rc rd t2 t3 t4 t5 b45 b4 b3 b2 kP kQ kC kD
    go_wp2_with fail
    refine (kl1 _).mono ?_
    rintro e u1 ⟨rfl, z1⟩
    go_wp2_with fail
    refine (kl2 _).mono ?_
    rintro e u2 ⟨rfl, z2⟩
    have y2 := z1.trans (z2.mono z1.size)
    go_wp2_with fail
    refine (kn1 _).mono ?_
    rintro e u3 ⟨rfl, z3⟩
    have y3 := y2.trans (z3.mono y2.size)
    go_wp2_with fail
    refine (kn2 _).mono ?_
    rintro e u4 ⟨rfl, z4⟩
    have y4 := y3.trans (z4.mono y3.size)
    go_wp2_with fail
    refine (kR _ (b5.trans (y4.mono b5.size))).mono ?_
    rintro e u5 ⟨rfl, z5⟩
    have y5 := y4.trans (z5.mono y4.size)
    go_wp2_with fail
    refine (kS _ (b5.trans (y5.mono b5.size))).mono ?_
    rintro e u6 ⟨rfl, z6⟩
    have y6 := y5.trans (z6.mono y5.size)
    go_wp2_with fail
    refine (equal_spec A2 A3 p p c2 c3 u6 (HT.out.1 _ y6) (HT.out.2.1 _ y6) (by omega) (by omega)).mono ?_
    rintro e u7 ⟨rfl, n7, rfl⟩
    have y7 := mk_drewB y6 n7
    generalize u6.drewN n7 = u7 at *
    go_wp2_with fail
    refine (equal_spec A4 A5 q q c4 c5 _ (HT.out.2.2.1 _ y7) (HT.out.2.2.2 _ y7) (by omega) (by omega)).mono ?_
    rintro e u8 ⟨rfl, n8, rfl⟩
    have y8 := mk_drewB y7 n8
    generalize u7.drewN n8 = u8 at *
    go_wp2
    go_ret
    exact ⟨rfl, b5.trans (y8.mono b5.size)⟩)
end Go.Proofs.Ytiklfjehhdbhfaa
