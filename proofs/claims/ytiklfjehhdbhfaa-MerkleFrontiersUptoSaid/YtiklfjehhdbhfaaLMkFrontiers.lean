/-
  MerkleFrontiers: the walk. Conditions: the arguments are small.
-/
import Derived.Test.YtiklfjehhdbhfaaMkR
namespace Go.Proofs.Ytiklfjehhdbhfaa
set_option linter.unusedVariables false
open Go.RowKit

set_option maxRecDepth 20000 in
set_option maxHeartbeats 1000000 in
theorem samefr_spec (z : Int) (A B : Option Addr) (L : List Mk.Str) (c d : Nat) (w : World) (hA : Rd w A (strs L)) (hB : Rd w B (strs L)) (hl : L.length ≤ 1099511627776) :
    Calls Try.prog 26 #[.agg #[.int .i64 z, .slice A L.length c], .agg #[.int .i64 z, .slice B L.length d]] w fun e w' => e = .returned (.bool true) ∧ Below w.heap.size w w' := by
  obtain ⟨W, hW⟩ : ∃ W, (w.alloc (.cells #[.int .i64 z, .slice A L.length c] 34)).alloc (.cells #[.int .i64 z, .slice B L.length d] 34) = W := ⟨_, rfl⟩
  have s1 : St w.heap.size w W [cellsR (w.heap.size + 1) 34 #[.int .i64 z, .slice B L.length d], cellsR w.heap.size 34 #[.int .i64 z, .slice A L.length c]] := by
    rw [← hW]
    have := ((St.nil w).alloc 34 #[.int .i64 z, .slice A L.length c]).alloc 34 #[.int .i64 z, .slice B L.length d]
    rwa [World.size_alloc] at this
  have c0 := s1.blk.cell 0
  have c1 := s1.blk.cell 1
  have d0 := s1.tail.blk.cell 0
  have d1 := s1.tail.blk.cell 1
  have k := samestr_spec A B L L c d W (hA.below s1.below) (hB.below s1.below) (by omega) (by omega)
  rw [decide_eq_true rfl] at k
  have zz : (z == z) = true := beq_self_eq_true z
  have HS := Lib.hid s1.below
  clear s1 hA hB
  go_enter Try.func26, Try.ntmps26
  go_wp2_with fail
  try rw [hW]
  refine k.mono ?_
  rintro e w' ⟨rfl, n, rfl⟩
  go_wp2
  go_ret
  exact ⟨rfl, mk_drewB HS.out n⟩
set_option maxRecDepth 20000 in
set_option maxHeartbeats 4000000 in
theorem merkleFrontiers_walk (z : Int) (A : Option Addr) (L : List Mk.Str) (c : Nat) (x : Mk.Str) (w : World) (z0 : -9223372036854775808 ≤ z) (z1 : z ≤ 9223372036854775807) (hR : Rd w A (strs L)) (hnil : A = none → L.length = 0 ∧ c = 0) (hc : L.length ≤ c) (hp : weight L ≤ 1073741824) :
    Calls Try.prog 4 #[.agg #[.int .i64 z, .slice A L.length c], .string ⟨x.toArray⟩] w fun e w' => e = .returned (.bool true) ∧ Below w.heap.size w w' := by
  have hLl : L.length ≤ 1073741824 := by unfold weight at hp; omega
  obtain ⟨W0, hW0⟩ : ∃ W0, w.alloc (.cells #[.int .i64 z, .slice A L.length c] 34) = W0 := ⟨_, rfl⟩
  have b0 : Below w.heap.size w W0 := by rw [← hW0]; exact (Below.refl _ w).alloc (Nat.le_refl _) _
  have bl : Blk W0 w.heap.size 34 #[.int .i64 z, .slice A L.length c] := by rw [← hW0]; exact Blk.new w _ _
  have hsz : w.heap.size < W0.heap.size := bl.lt
  have hcell : ∀ W, Below W0.heap.size W0 W → W.cell? ⟨w.heap.size, 0, none⟩ = some (.int .i64 z) ∧ W.cell? ⟨w.heap.size, 1, none⟩ = some (.slice A L.length c) := fun W hb => ⟨below_cell hb (bl.cell 0), below_cell hb (bl.cell 1)⟩
  have hr : ∀ W, Below W0.heap.size W0 W → Rd W A (strs L) := fun W hb => (hR.below b0).below hb
  have kF := fun W hb => mfew_spec A L c W (hr W hb) (by omega)
  have kA := fun W hb => append_spec z A L c x W (hr W hb) hnil (by omega) hc z0 z1
  have kB := fun W hb => rappend_spec z A L c x W (hr W hb) hnil (by omega) hc z0 z1
  have kC := fun W hb => froot_spec z A L c W (hr W hb) (by omega) hc z0 z1
  have kD := fun W hb => rfroot_spec z A L c W (hr W hb) (by omega) hc z0 z1
  have hlen : (apB z L x).1.2.length ≤ 1099511627776 := by
    unfold apB
    split
    · split
      · simp
      · unfold Mk.grow
        simp only [List.length_append, List.length_take, List.length_cons, List.length_nil]
        omega
    · simp
  obtain ⟨fb, hfb⟩ : ∃ fb, fewB L = fb := ⟨_, rfl⟩
  rw [hfb] at kF
  generalize apB z L x = y at kA kB hlen
  obtain ⟨⟨zy, M⟩, ey⟩ := y
  generalize frB z L = r at kC kD
  obtain ⟨rr, er⟩ := r
  have HX := Lib.hid (And.intro hR hp)
  have HC := Lib.hid (And.intro hcell hr)
  have t1 : decide (rr = rr) = true := decide_eq_true rfl
  have t2 : (ey == ey) = true := beq_self_eq_true ey
  have t3 : (er == er) = true := beq_self_eq_true er
  clear hR hp hfb hcell hr bl hnil
  go_enter Try.func4, Try.ntmps4
  go_wp2_with fail
  refine (awake_mk _).mono ?_
  rintro e w1 ⟨rfl, b1⟩
  obtain ⟨p0, p1⟩ := HC.out.1 _ b1
  go_wp2_with fail
  refine (kF _ b1).mono ?_
  rintro e w' ⟨rfl, rfl⟩
  cases fb with
  | false =>
    go_wp2
    go_ret
    exact ⟨rfl, b0.trans (b1.mono b0.size)⟩
  | true =>
  go_wp2_with fail
  refine (kA _ b1).mono ?_
  rintro e w2 ⟨v2, rfl, s2⟩
  obtain ⟨A2, c2, rfl, hc2, hm2⟩ := own_form s2.own
  have b2 := b1.trans (s2.below.mono b1.size)
  have b2a := b2.alloc b2.size (.cells #[.int .i64 zy, .slice A2 M.length c2] 34)
  obtain ⟨q0, q1⟩ := HC.out.1 _ b2
  obtain ⟨r0, r1⟩ := HC.out.1 _ b2a
  clear p0 p1
  go_wp2_with fail
  refine (kB _ b2a).mono ?_
  rintro e w3 ⟨v3, rfl, s3⟩
  obtain ⟨A3, c3, rfl, hc3, hm3⟩ := own_form s3.own
  have b3 := b2a.trans (s3.below.mono b2a.size)
  have b3a := b3.alloc b3.size (.cells #[.int .i64 zy, .slice A3 M.length c3] 34)
  obtain ⟨p0, p1⟩ := HC.out.1 _ b3
  obtain ⟨u0, u1⟩ := HC.out.1 _ b3a
  clear q0 q1 r0 r1
  have hb2 := Blk.new w2 34 #[.int .i64 zy, .slice A2 M.length c2]
  have hb3 := Blk.new w3 34 #[.int .i64 zy, .slice A3 M.length c3]
  have e2 : Below (w2.alloc (.cells #[.int .i64 zy, .slice A2 M.length c2] 34)).heap.size (w2.alloc (.cells #[.int .i64 zy, .slice A2 M.length c2] 34)) (w3.alloc (.cells #[.int .i64 zy, .slice A3 M.length c3] 34)) := s3.below.alloc s3.below.size _
  have f2 := hb2.below e2
  have R2 : Rd (w3.alloc (.cells #[.int .i64 zy, .slice A3 M.length c3] 34)) A2 (strs M) := ((Rd.of_own s2.own).alloc _).below e2
  have R3 : Rd (w3.alloc (.cells #[.int .i64 zy, .slice A3 M.length c3] 34)) A3 (strs M) := (Rd.of_own s3.own).alloc _
  have HB := Lib.hid (And.intro f2 (And.intro hb3 (And.intro R2 R3)))
  clear hb2 e2 f2 R2 R3 hb3 s2 s3
  go_wp2_with fail
  refine (kC _ b3a).mono ?_
  rintro e w4 ⟨rfl, b4⟩
  have b34 := b3a.trans (b4.mono b3a.size)
  obtain ⟨q0, q1⟩ := HC.out.1 _ b34
  clear p0 p1 u0 u1
  go_wp2_with fail
  refine (kD _ b34).mono ?_
  rintro e w5 ⟨rfl, b5⟩
  have b35 := b34.trans (b5.mono b34.size)
  have b45 := b4.trans (b5.mono b4.size)
  have g2 := HB.out.1.below b45
  have g3 := HB.out.2.1.below b45
  have kS := samefr_spec zy A2 A3 M c2 c3 w5 (HB.out.2.2.1.below b45) (HB.out.2.2.2.below b45) hlen
  have i0 := g2.cell 0
  have i1 := g2.cell 1
  have j0 := g3.cell 0
  have j1 := g3.cell 1
  simp only [List.getElem?_toArray, List.getElem?_cons_zero, List.getElem?_cons_succ] at i0 i1 j0 j1
  clear q0 q1 g2 g3 b4 b5 b45 b34
  go_wp2_with fail
  refine kS.mono ?_
  rintro e w6 ⟨rfl, b6⟩
  have b36 := b35.trans (b6.mono b35.size)
  go_wp2
  go_ret
  exact ⟨rfl, b0.trans (b36.mono b0.size)⟩
end Go.Proofs.Ytiklfjehhdbhfaa
