/-
  Numbers as bytes, steps of a chain, secret elements: in the program and in the reference. Conditions: numbers below 2^63, elements of at most 2^30 bytes.
-/
import Derived.Test.YtnlpakalcckaiaaSgMath
import Derived.Test.YtnlpakalcckaiaaCdA
import Derived.Test.YtnlpakalcckaiaaMkB
namespace Go.Proofs.Ytnlpakalcckaiaa
set_option linter.unusedVariables false
open Go.RowKit

theorem sl_some {w : World} {base : Nat} {e : TypeId} {size n l c : Nat} {A : Option Addr} {xs : List Value} (h : w.ownsRow base e size (.slice A l c) n xs) (hn : 0 < n) : ∃ g, A = some ⟨g, 0, none⟩ ∧ g < w.heap.size := by
  rcases h.2 with ⟨h2, h3⟩ | ⟨g, cap, cur, hv, _, hg, _⟩
  · omega
  · injection hv with hv _ _
    exact ⟨g, hv, (Array.getElem?_eq_some_iff.1 hg).1⟩
def nints (l : List Nat) : List Value := l.map fun (n : Nat) => Value.int .i64 (n : Int)
theorem nints_length (l : List Nat) : (nints l).length = l.length := by simp [nints]
theorem Rd.nint {w : World} {A : Option Addr} {L : List Nat} (h : Rd w A (nints L)) {k : Nat} (hk : k < L.length) : ∃ b off, A = some ⟨b, off, none⟩ ∧ w.cell? ⟨b, off + k, none⟩ = some (.int .i64 (L[k] : Int)) := by
  rcases h with h | ⟨b, off, hA, hc⟩
  · have := congrArg List.length h
    rw [nints_length, List.length_nil] at this
    omega
  · exact ⟨b, off, hA, by have := hc k (by rw [nints_length]; exact hk); simpa [nints] using this⟩
theorem sg_cat (a b : Sg.Str) (h : a.length + b.length ≤ 1099511627776) : ¬ (IntKind.i64.max < (a.length : Int) + (b.length : Int)) ∧ ¬ (9223372036854775807 < a.length + b.length) := by
  constructor
  · show ¬ ((9223372036854775807 : Int) < _); omega
  · omega
set_option maxRecDepth 20000 in
set_option maxHeartbeats 1000000 in
theorem numbers_spec (A : Option Addr) (L : List Nat) (c : Nat) (w : World) (hR : Rd w A (nints L)) (hL : L.length ≤ 1073741824) (hb : ∀ k (h : k < L.length), L[k] < 9223372036854775808) :
    Calls Try.prog 29 #[.slice A L.length c] w fun e w' => e = .returned (.string ⟨(Sg.nums L).toArray⟩) ∧ Below w.heap.size w w' := by
  have hnl := fun k => Sg.nums_len (L.take k)
  have HR := Lib.hid (And.intro hR hb)
  clear hR hb
  go_enter Try.func29, Try.ntmps29
  go_wp2
  go_loopw [3, 10] (fun s i wr => ∃ k : Nat, k ≤ L.length ∧ i = .int .i64 k ∧ s = .string ⟨(Sg.nums (L.take k)).toArray⟩ ∧ Below w.heap.size w wr) (fun _ i _ => L.length - (intOf i).toNat)
  case atStart => exact ⟨0, Nat.zero_le _, rfl, rfl, Below.refl _ _⟩
  case round =>
    obtain ⟨k, hk, rfl, rfl, hbe⟩ := hrel
    by_cases hlt : k < L.length
    · obtain ⟨b, off, hA, hc⟩ := (HR.out.1.below hbe).nint hlt
      subst hA
      have ku := fun W => uint_pos L[k] (HR.out.2 k hlt) W
      have hnt := Sg.nums_take L k hlt
      have hl1 := hnl k
      have hl2 := Cd.uns_len L[k]
      rw [List.length_take] at hl1
      generalize Sg.nums (L.take k) = S at hnt hl1
      generalize L[k] = n at ku hc hnt hl2
      generalize Cd.uns n = u at ku hnt hl2
      have hba := bytes_append S u
      obtain ⟨f1, f2⟩ := sg_cat S u (by omega)
      have HN := Lib.hid hnt
      clear hnt hnl
      have i0 : (0 : Int) ≤ (k : Int) := by omega
      have i1 : (k : Int) < (L.length : Int) := by omega
      go_wp2_with fail
      refine (ku _).mono ?_
      rintro e w5 ⟨rfl, b5⟩
      go_wp2
      go_roundw
      case rel => exact ⟨k + 1, by omega, by go_num, by rw [HN.out], hbe.trans (b5.mono hbe.size)⟩
      case measure => simp [intOf]; omega
    · obtain rfl : k = L.length := by omega
      rw [List.take_length]
      clear hnl
      go_wp2
      go_ret
      exact ⟨rfl, hbe⟩
theorem rd_ints2 (W : World) (a b : Nat) : Rd (W.alloc (.cells #[.int .i64 (a : Int), .int .i64 (b : Int)] 3)) (some ⟨W.heap.size, 0, none⟩) (nints [a, b]) := rd_new W _ _
theorem rd_ints3 (W : World) (a b c : Nat) : Rd (W.alloc (.cells #[.int .i64 (a : Int), .int .i64 (b : Int), .int .i64 (c : Int)] 3)) (some ⟨W.heap.size, 0, none⟩) (nints [a, b, c]) := rd_new W _ _
set_option maxRecDepth 20000 in
set_option maxHeartbeats 1000000 in
theorem secret_spec (seed : Sg.Str) (i c : Nat) (w : World) (hs : seed.length ≤ 1073741824) (hi : i < 9223372036854775808) (hc : c < 9223372036854775808) :
    Calls Try.prog 25 #[.string ⟨seed.toArray⟩, .int .i64 i, .int .i64 c] w fun e w' => e = .returned (.string ⟨(Sg.sec seed i c).toArray⟩) ∧ Below w.heap.size w w' := by
  have b0 : Below w.heap.size w (w.alloc (.cells #[.int .i64 (i : Int), .int .i64 (c : Int)] 3)) := (Below.refl _ w).alloc (Nat.le_refl _) _
  have kn := numbers_spec _ [i, c] 2 _ (rd_ints2 w i c) (by simp) (fun k h => by
    match k, h with
    | 0, _ => exact hi
    | 1, _ => exact hc)
  have hl := Sg.nums_len [i, c]
  have hm : Sg.sec seed i c = Sh.sha (2 :: (seed ++ Sg.nums [i, c])) := rfl
  rw [hm]
  clear hm
  generalize Sg.nums [i, c] = u at kn hl ⊢
  simp only [List.length_cons, List.length_nil] at hl
  have ha1 := bytes_append [2] seed
  have ha2 := bytes_append ([2] ++ seed) u
  rw [show [2] ++ seed ++ u = 2 :: (seed ++ u) from rfl] at ha2
  obtain ⟨f1, f2⟩ := sg_cat [2] seed (by simp; omega)
  obtain ⟨f3, f4⟩ := sg_cat ([2] ++ seed) u (by simp; omega)
  have ks := fun W => sum_below (2 :: (seed ++ u)) (by simp; omega) W
  generalize 2 :: (seed ++ u) = D at ha2 ks ⊢
  generalize [2] ++ seed = E at ha1 ha2 f3 f4
  go_enter Try.func25, Try.ntmps25
  go_wp2_with fail
  refine kn.mono ?_
  rintro e w1 ⟨rfl, b1⟩
  go_wp2_with fail
  refine (ks _).mono ?_
  rintro e w2 ⟨rfl, b2⟩
  go_wp2
  go_ret
  have b01 := b0.trans (b1.mono b0.size)
  exact ⟨rfl, b01.trans (b2.mono b01.size)⟩
set_option maxRecDepth 20000 in
set_option maxHeartbeats 1000000 in
theorem walk_spec (x : Sg.Str) (i c f n : Nat) (w : World) (hx : x.length ≤ 1073741824) (hi : i < 9223372036854775808) (hc : c < 9223372036854775808) (hn : f + n ≤ 1000) :
    Calls Try.prog 24 #[.string ⟨x.toArray⟩, .int .i64 i, .int .i64 c, .int .i64 f, .int .i64 ((f : Int) + n)] w fun e w' => e = .returned (.string ⟨(Sg.wlk i c f n x).toArray⟩) ∧ Below w.heap.size w w' := by
  have hle := fun k => Sg.wlk_le i c f 1073741824 (by decide) k x hx
  have e0 : (f : Int) + (n : Int) - (f : Int) = (n : Int) := by omega
  go_enter Try.func24, Try.ntmps24
  go_wp2
  go_loopw [0, 15] (fun s j wr => ∃ k : Nat, k ≤ n ∧ j = .int .i64 k ∧ s = .string ⟨(Sg.wlk i c f k x).toArray⟩ ∧ Below w.heap.size w wr) (fun _ j _ => n - (intOf j).toNat)
  case atStart => exact ⟨0, Nat.zero_le _, rfl, rfl, Below.refl _ _⟩
  case round =>
    obtain ⟨k, hk, rfl, rfl, hbe⟩ := hrel
    by_cases hlt : k < n
    · have kn := fun W => numbers_spec _ [i, c, f + k] 3 _ (rd_ints3 W i c (f + k)) (by simp) (fun k' h => by
        match k', h with
        | 0, _ => exact hi
        | 1, _ => exact hc
        | 2, _ => show f + k < _; omega)
      have hl := Sg.nums_len [i, c, f + k]
      have hm := Sg.wlk_succ i c f k x
      unfold Sg.stp at hm
      have hlk := hle k
      generalize Sg.wlk i c f k x = y at hm hlk
      generalize Sg.nums [i, c, f + k] = u at kn hl hm
      simp only [List.length_cons, List.length_nil] at hl
      have ecast : (((f + k : Nat)) : Int) = (f : Int) + (k : Int) := by omega
      rw [ecast] at kn
      have ha1 := bytes_append [3] u
      have ha2 := bytes_append ([3] ++ u) y
      rw [show [3] ++ u ++ y = 3 :: (u ++ y) from rfl] at ha2
      obtain ⟨f1, f2⟩ := sg_cat [3] u (by simp; omega)
      obtain ⟨f3, f4⟩ := sg_cat ([3] ++ u) y (by simp; omega)
      have ks := fun W => sum_below (3 :: (u ++ y)) (by simp; omega) W
      generalize 3 :: (u ++ y) = D at ha2 ks hm
      generalize [3] ++ u = E at ha1 ha2 f3 f4
      have HM := Lib.hid hm
      have b0 := hbe.alloc hbe.size (.cells #[.int .i64 (i : Int), .int .i64 (c : Int), .int .i64 ((f : Int) + (k : Int))] 3)
      clear hm hle ecast e0
      go_wp2_with fail
      refine (kn _).mono ?_
      rintro e w1 ⟨rfl, b1⟩
      go_wp2_with fail
      refine (ks _).mono ?_
      rintro e w2 ⟨rfl, b2⟩
      have b01 := b0.trans (b1.mono b0.size)
      go_wp2
      go_roundw
      case rel => exact ⟨k + 1, by omega, by go_num, by rw [HM.out], b01.trans (b2.mono b01.size)⟩
      case measure => simp [intOf]; omega
    · obtain rfl : k = n := by omega
      clear hle e0
      go_wp2
      go_ret
      exact ⟨rfl, hbe⟩
end Go.Proofs.Ytnlpakalcckaiaa
