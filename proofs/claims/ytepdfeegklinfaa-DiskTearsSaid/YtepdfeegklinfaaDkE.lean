/-
  The choices of a crash, yielded again and again (endless), and (*Disk).Crash. Conditions: at most 2^40 pending writes.
-/
import Derived.Test.YtepdfeegklinfaaDkD
import Derived.Test.YtepdfeegklinfaaRangeB
import Derived.Sort.LoopGhostIn
import Derived.OwnWalkIn
import Derived.TacticsInMore
import Derived.LoopNIn
import Derived.LoopIn
import Derived.BigFrameIn
namespace Go.Proofs.Ytepdfeegklinfaa
set_option linter.unusedVariables false
open Go.RowKit Go.ChangeMaps Go.MapKept Go.Shelf
attribute [local go_sem] Oper.semAt_some

def ints (l : List Int) : List Value := l.map fun x => .int .i64 x
theorem ints_length (l : List Int) : (ints l).length = l.length := by simp [ints]
theorem Rd.int {w : World} {A : Option Addr} {L : List Int} (h : Rd w A (ints L)) {k : Nat} (hk : k < L.length) : ∃ b off, A = some ⟨b, off, none⟩ ∧ w.cell? ⟨b, off + k, none⟩ = some (.int .i64 L[k]) := by
  rcases h with h | ⟨b0, off, hA', hc⟩
  · have := congrArg List.length h; rw [ints_length, List.length_nil] at this; omega
  · exact ⟨b0, off, hA', by have := hc k (by simpa [ints] using hk); simpa [ints] using this⟩
theorem choice_at {cs : List Int} {k i : Nat} (hk : k % cs.length = 0) (hi : i < cs.length) : Dk.choice cs (k + i) = cs[i].tmod 3 % 3 := by
  unfold Dk.choice
  rw [if_neg (by omega), Nat.add_mod, hk, Nat.zero_add, Nat.mod_mod, Nat.mod_eq_of_lt hi, List.getD_eq_getElem?_getD, List.getElem?_eq_getElem hi, Option.getD_some]
  obtain ⟨x, hx⟩ : ∃ x, cs[i] = x := ⟨_, rfl⟩
  rw [hx]
  by_cases h : 0 ≤ x
  · rw [Int.tmod_eq_emod_of_nonneg h]; omega
  · have e : x.tmod 3 = -((-x) % 3) := by rw [← Int.tmod_eq_emod_of_nonneg (by omega : 0 ≤ -x), Int.neg_tmod, Int.neg_neg]
    rw [e]; omega

set_option maxRecDepth 20000 in
set_option maxHeartbeats 2000000 in
theorem endless1_spec (n box b off c N : Nat) (cs : List Int) (hn : 1 ≤ n) (w : World) (hbox : w.cell? ⟨box, 0, none⟩ = some (.slice (some ⟨b, off, none⟩) cs.length c)) (hcs : ∀ j (hj : j < cs.length), w.cell? ⟨b, off + j, none⟩ = some (.int .i64 cs[j])) (hpos : 0 < cs.length) (hlen : cs.length ≤ 9223372036854775807) :
    Endless Fence.wide n Try.prog 48 #[.pointer (some ⟨box, 0, none⟩)] (fun k => .int .i64 (Dk.choice cs k)) (fun k => k = box ∨ k = b) N w := by
  intro l J Jx W hb hN hY h0
  have hbl := World.block_lt_of_cell? w _ hbox
  have hcl := World.block_lt_of_cell? w _ (hcs 0 hpos)
  have hbW : W.cell? ⟨box, 0, none⟩ = some (.slice (some ⟨b, off, none⟩) cs.length c) := (hb.cell (p := ⟨box, 0, none⟩) hbl).trans hbox
  have hcW : ∀ j (hj : j < cs.length), W.cell? ⟨b, off + j, none⟩ = some (.int .i64 cs[j]) := fun j hj => (hb.cell (p := ⟨b, off + j, none⟩) hcl).trans (hcs j hj)
  have HC := Lib.hid hcW
  clear hcW hcs hbox
  refine callsIn_of_wp Try.func48 rfl trivial ?_ rfl
  simp only [Try.ntmps48, List.size_toArray, List.length_cons, List.length_nil, Nat.reduceAdd, Nat.reduceSub, Array.replicate_succ, Array.replicate_zero, List.push_toArray, List.append_toArray, List.nil_append, List.cons_append]
  gi_wp2
  gi_loopg [7] (N + 1) (fun gk _ wr => ∃ k : Nat, gk + k = N + 1 ∧ k % cs.length = 0 ∧ J k wr ∧ wr.cell? ⟨box, 0, none⟩ = some (.slice (some ⟨b, off, none⟩) cs.length c) ∧ ∀ j (hj : j < cs.length), wr.cell? ⟨b, off + j, none⟩ = some (.int .i64 cs[j]))
  case atStart => exact ⟨0, by omega, Nat.zero_mod _, h0, hbW, HC.out⟩
  case round =>
    obtain ⟨k, hgk, hk0, hJ, hbx, hcx⟩ := hrel
    have hkN := hN k wr hJ
    have HX := Lib.hid (And.intro hk0 (And.intro hJ hcx))
    clear hk0 hJ hcx
    obtain ⟨wo, rfl⟩ : ∃ wo : World, wo = wr := ⟨_, rfl⟩
    obtain ⟨g1, rfl⟩ : ∃ g1 : Nat, g1 = gk := ⟨_, rfl⟩
    gi_wp2
    gi_loopg [7] g1 (fun gk2 i wr2 => ∃ j : Nat, j ≤ cs.length ∧ i = .int .i64 j ∧ gk2 + (k + j) = N + 1 ∧ J (k + j) wr2 ∧ wr2.cell? ⟨box, 0, none⟩ = some (.slice (some ⟨b, off, none⟩) cs.length c) ∧ ∀ j (hj : j < cs.length), wr2.cell? ⟨b, off + j, none⟩ = some (.int .i64 cs[j]))
    case atStart => exact ⟨0, Nat.zero_le _, rfl, by omega, HX.out.2.1, hbx, HX.out.2.2⟩
    case round =>
      obtain ⟨j, hj, rfl, hgj, hJ2, hbx2, hcx2⟩ := hrel
      by_cases hlt : j < cs.length
      · have hj0 : (0 : Int) ≤ (j : Int) := by omega
        have hj1 : (j : Int) < (cs.length : Int) := by omega
        have hc1 := hcx2 j hlt
        have hch := choice_at (cs := cs) HX.out.1 hlt
        have hkN2 := hN _ _ hJ2
        obtain ⟨x, hx⟩ : ∃ x, cs[j] = x := ⟨_, rfl⟩
        rw [hx] at hc1 hch
        have hY2 := hY (k + j) wr hJ2
        rw [hch] at hY2
        obtain ⟨fn, tmps, assign, body, hy, hR⟩ := hY2
        have HH := Lib.hid (And.intro hJ2 (And.intro hcx2 hbx2))
        have htm : 0 ≤ x.tmod 3 + 3 := by have := Int.lt_tmod_of_pos x (show (0 : Int) < 3 by decide); omega
        have htm2 : x.tmod 3 ≤ 2 := by have := Int.tmod_lt_of_pos x (show (0 : Int) < 3 by decide); omega
        clear hJ2 hcx2 hx hch
        gi_wp2
        refine hR.mono ?_
        rintro e W' (⟨rfl, hJ', hk⟩ | ⟨rfl, hJx'⟩)
        · gi_wp2
          gi_roundg (gk - 1)
          case measure => omega
          case rel =>
            refine ⟨j + 1, by omega, by go_num, by omega, hJ', (World.cell?_of_block (a := ⟨box, 0, none⟩) (hk _ (.inl rfl))).trans HH.out.2.2, fun i hi => (World.cell?_of_block (a := ⟨b, off + i, none⟩) (hk _ (.inr rfl))).trans (HH.out.2.1 i hi)⟩
        · gi_wp2
          refine bodyPost_ret (results_none rfl _ _ _) rfl ?_
          exact ⟨⟨_, rfl⟩, _, hJx'⟩
      · obtain rfl : j = cs.length := by omega
        gi_wp2
        gi_roundg gk
        case measure => omega
        case rel => exact ⟨k + cs.length, by omega, by rw [Nat.add_mod, HX.out.1]; simp, hJ2, hbx2, hcx2⟩
end Go.Proofs.Ytepdfeegklinfaa
