/-
  A frontier with one more leaf, in the program and in the reference. Conditions: at most 2^40 hashes.
-/
import Derived.Test.YtiklfjehhdbhfaaMkN
import Derived.Test.YtiklfjehhdbhfaaClone
namespace Go.Proofs.Ytiklfjehhdbhfaa
set_option linter.unusedVariables false
open Go.RowKit

/-- what Append returns -/
def apB (z : Int) (L : List Mk.Str) (x : Mk.Str) : (Int × List Mk.Str) × Int := if (fwB z L && decide (x.length = 32)) = true then (if z = 4096 then ((0, []), 22) else ((z + 1, Mk.grow L x z.toNat), 0)) else ((0, []), 1)
def ApP (y : (Int × List Mk.Str) × Int) (w : World) (e : Ending) (w' : World) : Prop := ∃ v, e = .returned (.tuple #[.agg #[.int .i64 y.1.1, v], .int .i64 y.2]) ∧ St w.heap.size w w' [ownR 9 1 v y.1.2.length (strs y.1.2)]
/-- a row of one's own is shorter -/
theorem own_take {w : World} {base : Nat} {e : TypeId} {A : Option Addr} {n c : Nat} {xs : List Value} (h : w.ownsRow base e 1 (.slice A n c) n xs) (m : Nat) (hm : m ≤ n) : w.ownsRow base e 1 (.slice A m c) m (xs.take m) := by
  obtain ⟨h1, h2⟩ := h
  refine ⟨by rw [List.length_take, h1]; omega, ?_⟩
  rcases h2 with ⟨h2, h3⟩ | ⟨g, cap, cur, hv, hb, hg, hn, hc, hs, ht⟩
  · injection h2 with a b d
    exact .inl ⟨by rw [a, d, show m = 0 by omega], by omega⟩
  · injection hv with a b d
    subst a d
    refine .inr ⟨g, c, cur, rfl, hb, hg, by omega, hc, hs, ?_⟩
    rw [← ht, List.take_take, Nat.mul_one, Nat.mul_one]
    congr 1
    omega
theorem St.shrink {lo : Nat} {w0 w : World} {Rs : List Res} {e : TypeId} {A : Option Addr} {n c : Nat} {xs : List Value} (h : St lo w0 w (ownR e 1 (.slice A n c) n xs :: Rs)) (m : Nat) (hm : m ≤ n) : St lo w0 w (ownR e 1 (.slice A m c) m (xs.take m) :: Rs) := by
  refine h.turn (fun F hF => ⟨own_take hF.1 m hm, ?_, hF.2.2⟩)
  intro k hk
  exact hF.2.1 k (by cases A <;> exact hk)
theorem mk_store (W : World) (s : Nat) (a b : Value) (cs : Array Value) (t : TypeId) (h : Blk W s t cs) (h2 : cs.size = 2) : Blk ((W.setCell ⟨s, 0, none⟩ a).setCell ⟨s, 1, none⟩ b) s t #[a, b] := by
  have := (h.set_ 0 a).set_ 1 b
  match cs, h2 with
  | ⟨[p, q]⟩, _ => simpa using this
/-- the result of a round -/
def gpr (L : List Mk.Str) (x : Mk.Str) (k : Nat) : Mk.Str := (L.drop (L.length - k)).foldr Mk.node x
theorem gpr_zero (L : List Mk.Str) (x : Mk.Str) : gpr L x 0 = x := by unfold gpr; simp
theorem gpr_succ (L : List Mk.Str) (x : Mk.Str) (k : Nat) (h : k < L.length) : gpr L x (k + 1) = Mk.node (L[L.length - 1 - k]'(by omega)) (gpr L x k) := by
  unfold gpr
  have h1 : L.length - (k + 1) < L.length := by omega
  rw [List.drop_eq_getElem_cons h1, List.foldr_cons, show L.length - (k + 1) + 1 = L.length - k by omega]
  congr 1
  congr 1
  omega
theorem mk_and1 (n : Int) : bits .and .i64 n 1 = n % 2 := by
  have h127 : (BitVec.ofInt 64 1).toNat = 2 ^ 1 - 1 := by decide
  have key : (BitVec.ofInt 64 n &&& BitVec.ofInt 64 1).toNat = (n % ((2 ^ 64 : Nat) : Int)).toNat % 2 ^ 1 := by
    rw [BitVec.toNat_and, BitVec.toNat_ofInt, h127, Nat.and_two_pow_sub_one_eq_mod]
  show IntKind.i64.wrap ((BitVec.ofInt 64 n &&& BitVec.ofInt 64 1).toNat : Nat) = n % 2
  rw [key, IntKind.wrap_i64]
  omega
theorem grow_eq (L : List Mk.Str) (x : Mk.Str) (n : Nat) : Mk.grow L x n = L.take (L.length - Mk.tones n) ++ [gpr L x (Mk.tones n)] := rfl
set_option maxRecDepth 20000 in
set_option maxHeartbeats 4000000 in
theorem append_spec (z : Int) (A : Option Addr) (L : List Mk.Str) (c : Nat) (x : Mk.Str) (w : World) (hR : Rd w A (strs L)) (hnil : A = none → L.length = 0 ∧ c = 0) (hl : L.length ≤ 1099511627776) (hc : L.length ≤ c) (z0 : -9223372036854775808 ≤ z) (z1 : z ≤ 9223372036854775807) :
    Calls Try.prog 22 #[.agg #[.int .i64 z, .slice A L.length c], .string ⟨x.toArray⟩] w (ApP (apB z L x) w) := by
  obtain ⟨W2, hW2⟩ : ∃ W2, (w.alloc (.cells #[.int .i64 z, .slice A L.length c] 34)).alloc (.cells #[.int .i64 0, .slice none 0 0] 34) = W2 := ⟨_, rfl⟩
  have s1 : St w.heap.size w W2 [cellsR (w.heap.size + 1) 34 #[.int .i64 0, .slice none 0 0], cellsR w.heap.size 34 #[.int .i64 z, .slice A L.length c]] := by
    rw [← hW2]
    have := ((St.nil w).alloc 34 #[.int .i64 z, .slice A L.length c]).alloc 34 #[.int .i64 0, .slice none 0 0]
    rwa [World.size_alloc] at this
  have b1 := s1.tail.blk
  have c0 := b1.cell 0
  have c1 := b1.cell 1
  have ba := s1.below
  have k1 := fun W hb => (whole_spec z A L c W (hR.below hb) hl z0 z1)
  have k2 := digest_spec x
  have HS1 := Lib.hid s1
  have HR := Lib.hid hR
  clear hR b1 s1
  cases hq : (fwB z L && decide (x.length = 32)) with
  | false =>
    have HB := Lib.hid (show apB z L x = ((0, []), 1) by unfold apB; rw [hq]; rfl)
    cases hf : fwB z L with
    | false =>
      rw [hf] at k1
      clear hq hf hnil hl hc
      go_enter Try.func22, Try.ntmps22
      go_wp2_with fail
      refine (k1 _ ba).mono ?_
      rintro e w1 ⟨rfl, bb⟩
      have s2 := HS1.out.under bb
      have bk := mk_store w1 (w.heap.size + 1) (.int .i64 0) (.slice none 0 0) _ _ s2.blk rfl
      have e0 := bk.cell 0
      have e1 := bk.cell 1
      have fz := s2.blk.frozen
      have q0 := s2.blk.cell 0
      have q1 := s2.blk.cell 1
      have hbw : Below w.heap.size w ((w1.setCell ⟨w.heap.size + 1, 0, none⟩ (.int .i64 0)).setCell ⟨w.heap.size + 1, 1, none⟩ (.slice none 0 0)) := (s2.below.setCell (p := ⟨w.heap.size + 1, 0, none⟩) (by simp) _).setCell (p := ⟨w.heap.size + 1, 1, none⟩) (by simp) _
      have HBW := Lib.hid hbw
      clear bk s2 c0 c1 hbw
      go_wp2
      simp at e0 e1
      refine bodyPost_ret (v := .tuple #[.agg #[.int .i64 0, .slice none 0 0], .int .i64 1]) (by simp [results, Try.results22, go_sem, e0, e1]) rfl ?_
      exact ⟨_, by rw [HB.out], by rw [HB.out]; exact (St.nil w).new_own HBW.out (World.ownsRow_nil _ _ _ _)⟩
    | true =>
      rw [hf, Bool.true_and] at hq
      rw [hf] at k1
      rw [hq] at k2
      clear hq hf hnil hl hc
      go_enter Try.func22, Try.ntmps22
      go_wp2_with fail
      refine (k1 _ ba).mono ?_
      rintro e w1 ⟨rfl, bb⟩
      go_wp2_with fail
      refine (k2 _).mono ?_
      rintro e w3 ⟨rfl, rfl⟩
      have s2 := HS1.out.under bb
      have bk := mk_store w1 (w.heap.size + 1) (.int .i64 0) (.slice none 0 0) _ _ s2.blk rfl
      have e0 := bk.cell 0
      have e1 := bk.cell 1
      have fz := s2.blk.frozen
      have q0 := s2.blk.cell 0
      have q1 := s2.blk.cell 1
      have hbw : Below w.heap.size w ((w1.setCell ⟨w.heap.size + 1, 0, none⟩ (.int .i64 0)).setCell ⟨w.heap.size + 1, 1, none⟩ (.slice none 0 0)) := (s2.below.setCell (p := ⟨w.heap.size + 1, 0, none⟩) (by simp) _).setCell (p := ⟨w.heap.size + 1, 1, none⟩) (by simp) _
      have HBW := Lib.hid hbw
      clear bk s2 c0 c1 hbw
      go_wp2
      simp at e0 e1
      refine bodyPost_ret (v := .tuple #[.agg #[.int .i64 0, .slice none 0 0], .int .i64 1]) (by simp [results, Try.results22, go_sem, e0, e1]) rfl ?_
      exact ⟨_, by rw [HB.out], by rw [HB.out]; exact (St.nil w).new_own HBW.out (World.ownsRow_nil _ _ _ _)⟩
  | true =>
    have hf := (Bool.and_eq_true _ _ ▸ hq).1
    have hd := (Bool.and_eq_true _ _ ▸ hq).2
    rw [hf] at k1
    rw [hd] at k2
    have hp := fwB_parts hf
    by_cases h4 : z = 4096
    · subst h4
      have HB := Lib.hid (show apB 4096 L x = ((0, []), 22) by unfold apB; rw [hq]; rfl)
      clear hq hf hd hnil hl hc hp
      go_enter Try.func22, Try.ntmps22
      go_wp2_with fail
      refine (k1 _ ba).mono ?_
      rintro e w1 ⟨rfl, bb⟩
      go_wp2_with fail
      refine (k2 _).mono ?_
      rintro e w3 ⟨rfl, rfl⟩
      have s2 := HS1.out.under bb
      have c02 := s2.tail.blk.cell 0
      have bk := mk_store w1 (w.heap.size + 1) (.int .i64 0) (.slice none 0 0) _ _ s2.blk rfl
      have e0 := bk.cell 0
      have e1 := bk.cell 1
      have fz := s2.blk.frozen
      have q0 := s2.blk.cell 0
      have q1 := s2.blk.cell 1
      have hbw : Below w.heap.size w ((w1.setCell ⟨w.heap.size + 1, 0, none⟩ (.int .i64 0)).setCell ⟨w.heap.size + 1, 1, none⟩ (.slice none 0 0)) := (s2.below.setCell (p := ⟨w.heap.size + 1, 0, none⟩) (by simp) _).setCell (p := ⟨w.heap.size + 1, 1, none⟩) (by simp) _
      have HBW := Lib.hid hbw
      clear bk s2 c0 c1 hbw
      go_wp2
      simp at e0 e1
      refine bodyPost_ret (v := .tuple #[.agg #[.int .i64 0, .slice none 0 0], .int .i64 22]) (by simp [results, Try.results22, go_sem, e0, e1]) rfl ?_
      exact ⟨_, by rw [HB.out], by rw [HB.out]; exact (St.nil w).new_own HBW.out (World.ownsRow_nil _ _ _ _)⟩
    · obtain ⟨a, rfl⟩ : ∃ a : Nat, z = a := ⟨z.toNat, by omega⟩
      have ht : Mk.tones a ≤ L.length := by have := Mk.tones_le a; have := hp.2.2.1; rw [Int.toNat_natCast] at this; omega
      have ha : a < 4096 := by omega
      have hL : L.length ≤ 4096 := hp.2.2.2.1
      have HB := Lib.hid (show apB a L x = (((a : Int) + 1, L.take (L.length - Mk.tones a) ++ [gpr L x (Mk.tones a)]), 0) by unfold apB; rw [hq, if_pos rfl, if_neg h4]; rfl)
      have hlast : ∀ k, k < L.length → ∀ W A', Rd W A' (strs (L.take (L.length - k))) → ∃ g off y, A' = some ⟨g, off, none⟩ ∧ W.cell? ⟨g, off + (L.length - 1 - k), none⟩ = some (.string ⟨y.toArray⟩) ∧ gpr L x (k + 1) = Mk.node y (gpr L x k) := fun k hk W A' hR' => by
        obtain ⟨g, off, hA, hcc⟩ := hR'.str (k := L.length - 1 - k) (by rw [List.length_take]; omega)
        rw [List.getElem_take] at hcc
        exact ⟨g, off, _, hA, hcc, gpr_succ L x k hk⟩
      have HL := Lib.hid hlast
      have h5 : ((a : Int) == 4096) = false := beq_eq_false_iff_ne.mpr h4
      clear hq hf hd hp hlast h4
      have hz0 := gpr_zero L x
      go_enter Try.func22, Try.ntmps22
      go_wp2_with fail
      refine (k1 _ ba).mono ?_
      rintro e w1 ⟨rfl, bb⟩
      go_wp2_with fail
      refine (k2 _).mono ?_
      rintro e w3 ⟨rfl, rfl⟩
      have s2 := HS1.out.under bb
      have c02 := s2.tail.blk.cell 0
      have c12 := s2.tail.blk.cell 1
      simp at c02 c12
      clear k1 k2
      go_wp2_with fail
      refine (clone_spec A L c _ (HR.out.below s2.below) hnil hl).mono ?_
      rintro e w3 ⟨v3, rfl, o3, b3⟩
      obtain ⟨A3, c3, rfl, hc3, hm3⟩ := own_form o3
      have s3 := s2.new_own b3 o3
      have c03 := s3.tail.tail.blk.cell 0
      simp at c03
      have HS3 := Lib.hid s3
      clear s3 o3 c02 c12 c0 c1 s2
      go_wp2_with fail
      go_loopw [1, 6, 7] (fun y l n wr => ∃ (k m : Nat) (A' : Option Addr) (c' : Nat), k ≤ L.length ∧ y = .string ⟨(gpr L x k).toArray⟩ ∧ l = .slice A' (L.length - k) c' ∧ n = .int .i64 m ∧ m ≤ 4096 ∧ L.length - k ≤ c' ∧ c' ≤ maxLen ∧ Mk.tones m + k = Mk.tones a ∧ St w.heap.size w wr [ownR 9 1 (.slice A' (L.length - k) c') (L.length - k) (strs (L.take (L.length - k))), cellsR (w.heap.size + 1) 34 #[.int .i64 0, .slice none 0 0], cellsR w.heap.size 34 #[.int .i64 a, .slice A L.length c]]) (fun _ _ n _ => (intOf n).toNat)
      case atStart => exact ⟨0, a, A3, c3, Nat.zero_le _, by rw [gpr_zero], rfl, rfl, by omega, hc3, hm3, by omega, by have := HS3.out; rw [show L.length - 0 = L.length from rfl, List.take_length]; exact this⟩
      case round =>
        obtain ⟨k, m, A', c', hk, rfl, rfl, rfl, hm, hc', hmc, htn, s4⟩ := hrel
        have c04 := s4.tail.tail.blk.cell 0
        simp at c04
        have hand : bits .and .i64 (m : Int) 1 = ((m % 2 : Nat) : Int) := by rw [mk_and1]; omega
        by_cases hodd : m % 2 = 1
        · rw [hodd] at hand
          have htm := Mk.tones_odd m hodd
          obtain ⟨g, off, y, rfl, hcy, hy⟩ := HL.out k (by omega) wr A' (Rd.of_own s4.own)
          obtain ⟨p, hp⟩ : ∃ p, L.length - k = p + 1 := ⟨L.length - k - 1, by omega⟩
          have s5 := (s4.shrink (L.length - (k + 1)) (by omega))
          have htk : (strs (L.take (L.length - k))).take (L.length - (k + 1)) = strs (L.take (L.length - (k + 1))) := by
            unfold strs
            rw [← List.map_take, List.take_take]
            congr 2
            omega
          rw [htk] at s5
          have hpk : L.length - (k + 1) = p := by omega
          have hpk2 : L.length - 1 - k = p := by omega
          have k6 := fun W => node_spec y (gpr L x k) W
          rw [← hy] at k6
          rw [hp] at hc' ⊢
          rw [hpk2] at hcy
          obtain ⟨y2, hy2⟩ : ∃ y2, gpr L x (k + 1) = y2 := ⟨_, rfl⟩
          rw [hy2] at k6
          have HY := Lib.hid hy2
          obtain ⟨d, hdd⟩ : ∃ d, m / 2 = d := ⟨_, rfl⟩
          have hd2 : (m : Int) / 2 = (d : Int) := by omega
          have hdm : d < m := by omega
          have HD := Lib.hid hdd
          rw [hdd] at htm
          have HX := Lib.hid (And.intro hpk (And.intro htm (And.intro hodd s5)))
          clear hdd
          have p1 : (p : Int) + 1 - 1 = (p : Int) := by omega
          have p2 : (p : Int) ≤ (c' : Int) := by omega
          have p5 : p ≤ 4096 := by omega
          have p3 : (p : Int) < (p : Int) + 1 := by omega
          have p4 : (p : Int) + 1 ≤ (c' : Int) := by omega
          generalize gpr L x k = y1 at k6 hy
          clear hy2 hy hp hpk2 hpk htm hodd s5 htk s4
          go_wp2_with fail
          refine (k6 _).mono ?_
          rintro e w5 ⟨rfl, b5⟩
          go_wp2
          go_roundw
          case rel => exact ⟨k + 1, d, _, c', by have := HX.out.2.1; omega, by rw [HY.out], by rw [HX.out.1], by go_num, by omega, by have := HX.out.1; omega, hmc, by have := HX.out.2.1; omega, HX.out.2.2.2.under b5⟩
          case measure => simp [intOf]; omega
        · have h0 : m % 2 = 0 := by omega
          rw [h0] at hand
          have hte := Mk.tones_even m hodd
          obtain rfl : k = Mk.tones a := by omega
          obtain ⟨p, hp⟩ : ∃ p, L.length - Mk.tones a = p := ⟨_, rfl⟩
          have hpl : p ≤ 4096 := by omega
          have hlp : (L.take p).length = p := by rw [List.length_take]; omega
          rw [hp] at s4 HB hc' ⊢
          generalize gpr L x (Mk.tones a) = y at HB
          generalize L.take p = T at HB s4 hlp
          have s5 := s4.drew
          have e0 := s5.tail.tail.blk.cell 0
          simp at e0
          have HX := Lib.hid (And.intro hlp (And.intro hte s4))
          have ee : ∀ o, (wr.alloc o).drew.cell? ⟨w.heap.size, 0, none⟩ = some (.int .i64 a) := fun o => by
            have := (s4.alloc0 o).drew.tail.tail.blk.cell 0
            simpa using this
          clear s5 hlp hte hp
          have pw : IntKind.i64.wrap ((a : Int) + 1) = (a : Int) + 1 := by rw [IntWalk.i64_left, IntWalk.wrap64_in _ (by omega)]
          have q2 : p + 1 ≤ maxLen := by unfold maxLen; omega
          have q1 : (p + 1) * 16 ≤ 140737488355328 := by omega
          go_wp2_with fail
          go_region_held3 (fun w' => w'.cell? ⟨w.heap.size, 0, none⟩ = some (.int .i64 a))
            (first
              | exact e0
              | exact ee _
              | exact e8
              | exact e9 _ _
              | fail)
            (first
              | (refine stepO 22 (te := 9) (u := .string ⟨y.toArray⟩) s4 Try.underlying22 info_str rfl _ _ (by rfl) (by rfl) (by rfl) (by rfl) rfl q2 q1 ?_
                 intro gg cap w5 h8 _
                 have e8 := h8.tail.tail.blk.cell 0
                 simp at e8
                 have e7 := h8.tail.blk.cell 0
                 simp at e7
                 have e6 := h8.tail.blk.cell 1
                 simp at e6
                 have f7 := h8.tail.blk.frozen
                 have e9 : ∀ u v, ((w5.setCell ⟨w.heap.size + 1, 0, none⟩ u).setCell ⟨w.heap.size + 1, 1, none⟩ v).cell? ⟨w.heap.size, 0, none⟩ = some (.int .i64 a) := fun u v => by
                   rw [World.cell?_setCell_far _ _ _ _ (by simp), World.cell?_setCell_far _ _ _ _ (by simp)]
                   exact e8)
              | fail)
          all_goals (
            have z9 := h8.swap
            have bk := mk_store w5 (w.heap.size + 1) (.int .i64 ((a : Int) + 1)) (.slice (some ⟨gg, 0, none⟩) (p + 1) cap) _ _ z9.blk rfl
            have x0 := bk.cell 0
            have x1 := bk.cell 1
            simp at x0 x1
            have s9 := ((z9.set_ 0 (.int .i64 ((a : Int) + 1))).set_ 1 (.slice (some ⟨gg, 0, none⟩) (p + 1) cap)).swap
            have hst := s9.pick [0] (by decide) (by simp)
            go_wp2
            refine bodyPost_ret (v := .tuple #[.agg #[.int .i64 ((a : Int) + 1), .slice (some ⟨gg, 0, none⟩) (p + 1) cap], .int .i64 0]) (by simp [results, Try.results22, go_sem, x0, x1]) rfl ?_
            refine ⟨_, by rw [HB.out], ?_⟩
            rw [HB.out]
            have hT : (T ++ [y]).length = p + 1 := by rw [List.length_append, HX.out.1]; rfl
            rw [show (((a : Int) + 1, T ++ [y]), (0 : Int)).1.2 = T ++ [y] from rfl, hT, strs_append]
            exact hst)
set_option maxRecDepth 20000 in
set_option maxHeartbeats 4000000 in
theorem rappend_spec (z : Int) (A : Option Addr) (L : List Mk.Str) (c : Nat) (x : Mk.Str) (w : World) (hR : Rd w A (strs L)) (hnil : A = none → L.length = 0 ∧ c = 0) (hl : L.length ≤ 1099511627776) (hc : L.length ≤ c) (z0 : -9223372036854775808 ≤ z) (z1 : z ≤ 9223372036854775807) :
    Calls Try.prog 23 #[.agg #[.int .i64 z, .slice A L.length c], .string ⟨x.toArray⟩] w (ApP (apB z L x) w) := by
  obtain ⟨W2, hW2⟩ : ∃ W2, (w.alloc (.cells #[.int .i64 z, .slice A L.length c] 34)).alloc (.cells #[.int .i64 0, .slice none 0 0] 34) = W2 := ⟨_, rfl⟩
  have s1 : St w.heap.size w W2 [cellsR (w.heap.size + 1) 34 #[.int .i64 0, .slice none 0 0], cellsR w.heap.size 34 #[.int .i64 z, .slice A L.length c]] := by
    rw [← hW2]
    have := ((St.nil w).alloc 34 #[.int .i64 z, .slice A L.length c]).alloc 34 #[.int .i64 0, .slice none 0 0]
    rwa [World.size_alloc] at this
  have b1 := s1.tail.blk
  have c0 := b1.cell 0
  have c1 := b1.cell 1
  have ba := s1.below
  have k1 := fun W hb => (rwhole_spec z A L c W (hR.below hb) hl z0 z1)
  have k2 := rdigest_spec x
  have HS1 := Lib.hid s1
  have HR := Lib.hid hR
  clear hR b1 s1
  cases hq : (fwB z L && decide (x.length = 32)) with
  | false =>
    have HB := Lib.hid (show apB z L x = ((0, []), 1) by unfold apB; rw [hq]; rfl)
    cases hf : fwB z L with
    | false =>
      rw [hf] at k1
      clear hq hf hnil hl hc
      go_enter Try.func23, Try.ntmps23
      go_wp2_with fail
      refine (k1 _ ba).mono ?_
      rintro e w1 ⟨rfl, bb⟩
      have s2 := HS1.out.under bb
      have bk := mk_store w1 (w.heap.size + 1) (.int .i64 0) (.slice none 0 0) _ _ s2.blk rfl
      have e0 := bk.cell 0
      have e1 := bk.cell 1
      have fz := s2.blk.frozen
      have q0 := s2.blk.cell 0
      have q1 := s2.blk.cell 1
      have hbw : Below w.heap.size w ((w1.setCell ⟨w.heap.size + 1, 0, none⟩ (.int .i64 0)).setCell ⟨w.heap.size + 1, 1, none⟩ (.slice none 0 0)) := (s2.below.setCell (p := ⟨w.heap.size + 1, 0, none⟩) (by simp) _).setCell (p := ⟨w.heap.size + 1, 1, none⟩) (by simp) _
      have HBW := Lib.hid hbw
      clear bk s2 c0 c1 hbw
      go_wp2
      simp at e0 e1
      refine bodyPost_ret (v := .tuple #[.agg #[.int .i64 0, .slice none 0 0], .int .i64 1]) (by simp [results, Try.results23, go_sem, e0, e1]) rfl ?_
      exact ⟨_, by rw [HB.out], by rw [HB.out]; exact (St.nil w).new_own HBW.out (World.ownsRow_nil _ _ _ _)⟩
    | true =>
      rw [hf, Bool.true_and] at hq
      rw [hf] at k1
      rw [hq] at k2
      clear hq hf hnil hl hc
      go_enter Try.func23, Try.ntmps23
      go_wp2_with fail
      refine (k1 _ ba).mono ?_
      rintro e w1 ⟨rfl, bb⟩
      go_wp2_with fail
      refine (k2 _).mono ?_
      rintro e w3 ⟨rfl, rfl⟩
      have s2 := HS1.out.under bb
      have bk := mk_store w1 (w.heap.size + 1) (.int .i64 0) (.slice none 0 0) _ _ s2.blk rfl
      have e0 := bk.cell 0
      have e1 := bk.cell 1
      have fz := s2.blk.frozen
      have q0 := s2.blk.cell 0
      have q1 := s2.blk.cell 1
      have hbw : Below w.heap.size w ((w1.setCell ⟨w.heap.size + 1, 0, none⟩ (.int .i64 0)).setCell ⟨w.heap.size + 1, 1, none⟩ (.slice none 0 0)) := (s2.below.setCell (p := ⟨w.heap.size + 1, 0, none⟩) (by simp) _).setCell (p := ⟨w.heap.size + 1, 1, none⟩) (by simp) _
      have HBW := Lib.hid hbw
      clear bk s2 c0 c1 hbw
      go_wp2
      simp at e0 e1
      refine bodyPost_ret (v := .tuple #[.agg #[.int .i64 0, .slice none 0 0], .int .i64 1]) (by simp [results, Try.results23, go_sem, e0, e1]) rfl ?_
      exact ⟨_, by rw [HB.out], by rw [HB.out]; exact (St.nil w).new_own HBW.out (World.ownsRow_nil _ _ _ _)⟩
  | true =>
    have hf := (Bool.and_eq_true _ _ ▸ hq).1
    have hd := (Bool.and_eq_true _ _ ▸ hq).2
    rw [hf] at k1
    rw [hd] at k2
    have hp := fwB_parts hf
    by_cases h4 : z = 4096
    · subst h4
      have HB := Lib.hid (show apB 4096 L x = ((0, []), 22) by unfold apB; rw [hq]; rfl)
      clear hq hf hd hnil hl hc hp
      go_enter Try.func23, Try.ntmps23
      go_wp2_with fail
      refine (k1 _ ba).mono ?_
      rintro e w1 ⟨rfl, bb⟩
      go_wp2_with fail
      refine (k2 _).mono ?_
      rintro e w3 ⟨rfl, rfl⟩
      have s2 := HS1.out.under bb
      have c02 := s2.tail.blk.cell 0
      have bk := mk_store w1 (w.heap.size + 1) (.int .i64 0) (.slice none 0 0) _ _ s2.blk rfl
      have e0 := bk.cell 0
      have e1 := bk.cell 1
      have fz := s2.blk.frozen
      have q0 := s2.blk.cell 0
      have q1 := s2.blk.cell 1
      have hbw : Below w.heap.size w ((w1.setCell ⟨w.heap.size + 1, 0, none⟩ (.int .i64 0)).setCell ⟨w.heap.size + 1, 1, none⟩ (.slice none 0 0)) := (s2.below.setCell (p := ⟨w.heap.size + 1, 0, none⟩) (by simp) _).setCell (p := ⟨w.heap.size + 1, 1, none⟩) (by simp) _
      have HBW := Lib.hid hbw
      clear bk s2 c0 c1 hbw
      go_wp2
      simp at e0 e1
      refine bodyPost_ret (v := .tuple #[.agg #[.int .i64 0, .slice none 0 0], .int .i64 22]) (by simp [results, Try.results23, go_sem, e0, e1]) rfl ?_
      exact ⟨_, by rw [HB.out], by rw [HB.out]; exact (St.nil w).new_own HBW.out (World.ownsRow_nil _ _ _ _)⟩
    · obtain ⟨a, rfl⟩ : ∃ a : Nat, z = a := ⟨z.toNat, by omega⟩
      have ht : Mk.tones a ≤ L.length := by have := Mk.tones_le a; have := hp.2.2.1; rw [Int.toNat_natCast] at this; omega
      have ha : a < 4096 := by omega
      have hL : L.length ≤ 4096 := hp.2.2.2.1
      have HB := Lib.hid (show apB a L x = (((a : Int) + 1, L.take (L.length - Mk.tones a) ++ [gpr L x (Mk.tones a)]), 0) by unfold apB; rw [hq, if_pos rfl, if_neg h4]; rfl)
      have hlast : ∀ k, k < L.length → ∀ W A', Rd W A' (strs (L.take (L.length - k))) → ∃ g off y, A' = some ⟨g, off, none⟩ ∧ W.cell? ⟨g, off + (L.length - 1 - k), none⟩ = some (.string ⟨y.toArray⟩) ∧ gpr L x (k + 1) = Mk.node y (gpr L x k) := fun k hk W A' hR' => by
        obtain ⟨g, off, hA, hcc⟩ := hR'.str (k := L.length - 1 - k) (by rw [List.length_take]; omega)
        rw [List.getElem_take] at hcc
        exact ⟨g, off, _, hA, hcc, gpr_succ L x k hk⟩
      have HL := Lib.hid hlast
      have h5 : ((a : Int) == 4096) = false := beq_eq_false_iff_ne.mpr h4
      clear hq hf hd hp hlast h4
      have hz0 := gpr_zero L x
      go_enter Try.func23, Try.ntmps23
      go_wp2_with fail
      refine (k1 _ ba).mono ?_
      rintro e w1 ⟨rfl, bb⟩
      go_wp2_with fail
      refine (k2 _).mono ?_
      rintro e w3 ⟨rfl, rfl⟩
      have s2 := HS1.out.under bb
      have c02 := s2.tail.blk.cell 0
      have c12 := s2.tail.blk.cell 1
      simp at c02 c12
      clear k1 k2
      have c1a := (s2.alloc0 (.cells #[] 9)).tail.blk.cell 1
      simp at c1a
      go_wp2_with (at_builtin; go_must (refine appendN _ 22 9 (.string ⟨#[]⟩) 16 w1.heap.size Try.underlying22 info_strc rfl rfl _ _ rfl _ 0 [] A L.length c (strs L) (World.ownsRow_lit w1 #[] 0 (Nat.le_refl _) (by decide) rfl) rfl rfl hnil ((HR.out.below s2.below).alloc _) (strs_length L) (strs_one L) (by omega) (by unfold maxLen; omega) (by simp) ?_))
      intro v3 w3 o3 g3
      try rw [Nat.zero_add, List.nil_append] at o3
      have b3 : Below w1.heap.size w1 w3 := ((Below.refl _ w1).alloc (Nat.le_refl _) _).grown g3 (by simp) (fun k hk => by cases hk; exact Nat.le_refl _)
      obtain ⟨A3, c3, rfl, hc3, hm3⟩ := own_form o3
      have s3 := s2.new_own b3 o3
      have c03 := s3.tail.tail.blk.cell 0
      simp at c03
      have HS3 := Lib.hid s3
      clear s3 o3 c02 c12 c0 c1 s2
      go_wp2_with fail
      go_loopw [7, 6, 8] (fun y l n wr => ∃ (k m : Nat) (A' : Option Addr) (c' : Nat), k ≤ L.length ∧ y = .string ⟨(gpr L x k).toArray⟩ ∧ l = .slice A' (L.length - k) c' ∧ n = .int .i64 m ∧ m ≤ 4096 ∧ L.length - k ≤ c' ∧ c' ≤ maxLen ∧ Mk.tones m + k = Mk.tones a ∧ St w.heap.size w wr [ownR 9 1 (.slice A' (L.length - k) c') (L.length - k) (strs (L.take (L.length - k))), cellsR (w.heap.size + 1) 34 #[.int .i64 0, .slice none 0 0], cellsR w.heap.size 34 #[.int .i64 a, .slice A L.length c]]) (fun _ _ n _ => (intOf n).toNat)
      case atStart => exact ⟨0, a, A3, c3, Nat.zero_le _, by rw [gpr_zero], rfl, rfl, by omega, hc3, hm3, by omega, by have := HS3.out; rw [show L.length - 0 = L.length from rfl, List.take_length]; exact this⟩
      case round =>
        obtain ⟨k, m, A', c', hk, rfl, rfl, rfl, hm, hc', hmc, htn, s4⟩ := hrel
        have c04 := s4.tail.tail.blk.cell 0
        simp at c04
        have hand : (m : Int).tmod 2 = ((m % 2 : Nat) : Int) := by rw [Int.tmod_eq_emod_of_nonneg (by omega)]; omega
        have hand2 : (m : Int) % 2 = ((m % 2 : Nat) : Int) := by omega
        by_cases hodd : m % 2 = 1
        · rw [hodd] at hand hand2
          have htm := Mk.tones_odd m hodd
          obtain ⟨g, off, y, rfl, hcy, hy⟩ := HL.out k (by omega) wr A' (Rd.of_own s4.own)
          obtain ⟨p, hp⟩ : ∃ p, L.length - k = p + 1 := ⟨L.length - k - 1, by omega⟩
          have s5 := (s4.shrink (L.length - (k + 1)) (by omega))
          have htk : (strs (L.take (L.length - k))).take (L.length - (k + 1)) = strs (L.take (L.length - (k + 1))) := by
            unfold strs
            rw [← List.map_take, List.take_take]
            congr 2
            omega
          rw [htk] at s5
          have hpk : L.length - (k + 1) = p := by omega
          have hpk2 : L.length - 1 - k = p := by omega
          have k6 := fun W => rnode_spec y (gpr L x k) W
          rw [← hy] at k6
          rw [hp] at hc' ⊢
          rw [hpk2] at hcy
          obtain ⟨y2, hy2⟩ : ∃ y2, gpr L x (k + 1) = y2 := ⟨_, rfl⟩
          rw [hy2] at k6
          have HY := Lib.hid hy2
          obtain ⟨d, hdd⟩ : ∃ d, m / 2 = d := ⟨_, rfl⟩
          have hd2 : (m : Int) / 2 = (d : Int) := by omega
          have hd3 : (m : Int).tdiv 2 = (d : Int) := by rw [Int.tdiv_eq_ediv_of_nonneg (by omega)]; omega
          have hdm : d < m := by omega
          have HD := Lib.hid hdd
          rw [hdd] at htm
          have HX := Lib.hid (And.intro hpk (And.intro htm (And.intro hodd s5)))
          clear hdd
          have p1 : (p : Int) + 1 - 1 = (p : Int) := by omega
          have p2 : (p : Int) ≤ (c' : Int) := by omega
          have p5 : p ≤ 4096 := by omega
          have p3 : (p : Int) < (p : Int) + 1 := by omega
          have p4 : (p : Int) + 1 ≤ (c' : Int) := by omega
          generalize gpr L x k = y1 at k6 hy
          clear hy2 hy hp hpk2 hpk htm hodd s5 htk s4
          go_wp2_with fail
          refine (k6 _).mono ?_
          rintro e w5 ⟨rfl, b5⟩
          go_wp2
          go_roundw
          case rel => exact ⟨k + 1, d, _, c', by have := HX.out.2.1; omega, by rw [HY.out], by rw [HX.out.1], by go_num, by omega, by have := HX.out.1; omega, hmc, by have := HX.out.2.1; omega, HX.out.2.2.2.under b5⟩
          case measure => simp [intOf]; omega
        · have h0 : m % 2 = 0 := by omega
          rw [h0] at hand hand2
          have hte := Mk.tones_even m hodd
          obtain rfl : k = Mk.tones a := by omega
          obtain ⟨p, hp⟩ : ∃ p, L.length - Mk.tones a = p := ⟨_, rfl⟩
          have hpl : p ≤ 4096 := by omega
          have hlp : (L.take p).length = p := by rw [List.length_take]; omega
          rw [hp] at s4 HB hc' ⊢
          generalize gpr L x (Mk.tones a) = y at HB
          generalize L.take p = T at HB s4 hlp
          have s5 := s4.drew
          have e0 := s5.tail.tail.blk.cell 0
          simp at e0
          have HX := Lib.hid (And.intro hlp (And.intro hte s4))
          have ee : ∀ o, (wr.alloc o).drew.cell? ⟨w.heap.size, 0, none⟩ = some (.int .i64 a) := fun o => by
            have := (s4.alloc0 o).drew.tail.tail.blk.cell 0
            simpa using this
          clear s5 hlp hte hp
          have pw : IntKind.i64.wrap ((a : Int) + 1) = (a : Int) + 1 := by rw [IntWalk.i64_left, IntWalk.wrap64_in _ (by omega)]
          have q2 : p + 1 ≤ maxLen := by unfold maxLen; omega
          have q1 : (p + 1) * 16 ≤ 140737488355328 := by omega
          go_wp2_with fail
          go_region_held3 (fun w' => w'.cell? ⟨w.heap.size, 0, none⟩ = some (.int .i64 a))
            (first
              | exact e0
              | exact ee _
              | exact e8
              | exact e9 _ _
              | fail)
            (first
              | (refine stepO 22 (te := 9) (u := .string ⟨y.toArray⟩) s4 Try.underlying22 info_str rfl _ _ (by rfl) (by rfl) (by rfl) (by rfl) rfl q2 q1 ?_
                 intro gg cap w5 h8 _
                 have e8 := h8.tail.tail.blk.cell 0
                 simp at e8
                 have e7 := h8.tail.blk.cell 0
                 simp at e7
                 have e6 := h8.tail.blk.cell 1
                 simp at e6
                 have f7 := h8.tail.blk.frozen
                 have e9 : ∀ u v, ((w5.setCell ⟨w.heap.size + 1, 0, none⟩ u).setCell ⟨w.heap.size + 1, 1, none⟩ v).cell? ⟨w.heap.size, 0, none⟩ = some (.int .i64 a) := fun u v => by
                   rw [World.cell?_setCell_far _ _ _ _ (by simp), World.cell?_setCell_far _ _ _ _ (by simp)]
                   exact e8)
              | fail)
          all_goals (
            have z9 := h8.swap
            have bk := mk_store w5 (w.heap.size + 1) (.int .i64 ((a : Int) + 1)) (.slice (some ⟨gg, 0, none⟩) (p + 1) cap) _ _ z9.blk rfl
            have x0 := bk.cell 0
            have x1 := bk.cell 1
            simp at x0 x1
            have s9 := ((z9.set_ 0 (.int .i64 ((a : Int) + 1))).set_ 1 (.slice (some ⟨gg, 0, none⟩) (p + 1) cap)).swap
            have hst := s9.pick [0] (by decide) (by simp)
            go_wp2
            refine bodyPost_ret (v := .tuple #[.agg #[.int .i64 ((a : Int) + 1), .slice (some ⟨gg, 0, none⟩) (p + 1) cap], .int .i64 0]) (by simp [results, Try.results23, go_sem, x0, x1]) rfl ?_
            refine ⟨_, by rw [HB.out], ?_⟩
            rw [HB.out]
            have hT : (T ++ [y]).length = p + 1 := by rw [List.length_append, HX.out.1]; rfl
            rw [show (((a : Int) + 1, T ++ [y]), (0 : Int)).1.2 = T ++ [y] from rfl, hT, strs_append]
            exact hst)
end Go.Proofs.Ytiklfjehhdbhfaa
