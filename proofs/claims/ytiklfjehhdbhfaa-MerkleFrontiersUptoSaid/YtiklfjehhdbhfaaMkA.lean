/-
  Split, node and leaf hashes, in the program and in the reference. Conditions: strings of at most 2^30 bytes.
-/
import Derived.Test.YtiklfjehhdbhfaaShW
import Derived.Test.YtiklfjehhdbhfaaJoin
import Derived.Test.YtiklfjehhdbhfaaLayL
import Derived.Test.YtiklfjehhdbhfaaMkMath2
namespace Go.Proofs.Ytiklfjehhdbhfaa
set_option linter.unusedVariables false
open Go.RowKit Go.Shelf

theorem bitLen_log (x : Nat) (h : x ≠ 0) (hx : x < 18446744073709551616) : Lib.bitLen x = Nat.log2 x + 1 := by
  induction x using Nat.strongRecOn with
  | _ x ih =>
    rw [Lib.bitLen_half x h hx, Nat.log2_def]
    by_cases h2 : 2 ≤ x
    · rw [if_pos h2, ih (x / 2) (by omega) (by omega) (by omega)]
      omega
    · have : x = 1 := by omega
      subst this
      rfl
theorem len_f : Try.laysLen_ren.f 125 = 67 := by kernel_rfl
theorem split_spec (n : Nat) (h : 2 ≤ n) (hn : n ≤ 1099511627776) (w : World) : Calls Try.prog 56 #[.int .i64 (n : Int)] w fun e w' => e = .returned (.int .i64 (Mk.split n : Nat)) ∧ w = w' := by
  have k := fun W => Any.bits_Len Try.laysLen ((n - 1 : Nat) : Int) W (by omega) (by omega)
  rw [len_f] at k
  have hb : Lib.bitLen ((n - 1 : Nat) : Int).toNat = Nat.log2 (n - 1) + 1 := by
    rw [Int.toNat_natCast]
    exact bitLen_log _ (by omega) (by omega)
  rw [hb] at k
  have e1 : (n : Int) - 1 = ((n - 1 : Nat) : Int) := by omega
  have hl : Nat.log2 (n - 1) ≤ 40 := by
    have := Nat.log2_lt (n := n - 1) (k := 41) (by omega)
    have h2 := this.2 (by omega)
    omega
  have hs : Mk.split n = 2 ^ Nat.log2 (n - 1) := rfl
  rw [hs]
  obtain ⟨m, hm⟩ : ∃ m, Nat.log2 (n - 1) = m := ⟨_, rfl⟩
  rw [hm] at k hl ⊢
  have s1 := fun W => run_shl Try.prog .i64 .i64 1 m W (by show m ≤ 64; omega)
  have h3 : 2 ^ m ≤ 2 ^ 40 := Nat.pow_le_pow_right (by decide) hl
  have h4 : ((2 : Int) ^ m) = ((2 ^ m : Nat) : Int) := by simp
  rw [Int.one_mul, h4] at s1
  obtain ⟨P, hP⟩ : ∃ P, 2 ^ m = P := ⟨_, rfl⟩
  rw [hP] at s1 h3 ⊢
  have hp : IntKind.i64.wrap (P : Int) = (P : Int) := by rw [IntKind.wrap_i64]; omega
  rw [hp] at s1
  have h5 : wrap64 ((2 : Int) ^ m) = (P : Int) := by rw [h4, hP, IntWalk.wrap64_in _ (by omega)]
  generalize n - 1 = q at e1 k hm
  clear hp hs hb hm h4 hP
  go_enter Try.func56, Try.ntmps56
  go_wp2_with fail
  refine (k w).mono ?_
  rintro e w' ⟨rfl, rfl⟩
  clear k
  have H5 := Lib.hid h5
  go_wp2
  go_ret
  exact ⟨congrArg (fun v => Ending.returned (Value.int .i64 v)) H5.out, rfl⟩
theorem rsplit_spec (n : Nat) (h : 2 ≤ n) (hn : n ≤ 1099511627776) (w : World) : Calls Try.prog 58 #[.int .i64 (n : Int)] w fun e w' => e = .returned (.int .i64 (Mk.split n : Nat)) ∧ w = w' := by
  have HS := Lib.hid (fun (k j : Nat) (a : k = 2 ^ j) (b : k < n) (c : ¬ 2 * k < n) => (Mk.split_unique h j a b (by omega)).symm)
  go_enter Try.func58, Try.ntmps58
  go_wp2
  go_loop [3] (fun v => ∃ k : Nat, v = .int .i64 k ∧ (∃ j, k = 2 ^ j) ∧ 1 ≤ k ∧ k < n) (fun v => n - (intOf v).toNat)
  case atStart => exact ⟨1, rfl, ⟨0, rfl⟩, by omega, by omega⟩
  case round =>
    obtain ⟨k, rfl, ⟨j, hj⟩, h1, hk⟩ := hrel
    have HJ := Lib.hid hj
    clear hj
    by_cases hlt : 2 * k < n
    · have g1 : decide (2 * (k : Int) < (n : Int)) = true := by simp; omega
      go_wp2
      go_round
      case rel => exact ⟨2 * k, by congr 1 <;> omega, ⟨j + 1, by rw [HJ.out, Nat.pow_succ]; omega⟩, by omega, by omega⟩
      case measure => simp [intOf]; omega
    · have g1 : decide (2 * (k : Int) < (n : Int)) = false := by simp; omega
      go_wp2
      go_ret
      exact ⟨by rw [← HS.out k j HJ.out hk hlt]; rfl, rfl⟩
theorem digest_spec (s : Mk.Str) (w : World) : Calls Try.prog 41 #[.string ⟨s.toArray⟩] w fun e w' => e = .returned (.bool (decide (s.length = 32))) ∧ w = w' := by
  by_cases h : s.length = 32
  · have g1 : ((s.length : Int) == 32) = true := by rw [h]; rfl
    have hd : decide (s.length = 32) = true := decide_eq_true h
    rw [hd]
    clear h hd
    go_enter Try.func41, Try.ntmps41
    go_wp2
    go_ret
    exact ⟨rfl, rfl⟩
  · have g1 : ((s.length : Int) == 32) = false := by rw [beq_eq_false_iff_ne]; omega
    have hd : decide (s.length = 32) = false := decide_eq_false h
    rw [hd]
    clear h hd
    go_enter Try.func41, Try.ntmps41
    go_wp2
    go_ret
    exact ⟨rfl, rfl⟩
theorem rdigest_spec (s : Mk.Str) (w : World) : Calls Try.prog 42 #[.string ⟨s.toArray⟩] w fun e w' => e = .returned (.bool (decide (s.length = 32))) ∧ w = w' := by
  by_cases h : s.length = 32
  · have g1 : ((s.length : Int) == 32) = true := by rw [h]; rfl
    have hd : decide (s.length = 32) = true := decide_eq_true h
    rw [hd]
    clear h hd
    go_enter Try.func42, Try.ntmps42
    go_wp2
    go_ret
    exact ⟨rfl, rfl⟩
  · have g1 : ((s.length : Int) == 32) = false := by rw [beq_eq_false_iff_ne]; omega
    have hd : decide (s.length = 32) = false := decide_eq_false h
    rw [hd]
    clear h hd
    go_enter Try.func42, Try.ntmps42
    go_wp2
    go_ret
    exact ⟨rfl, rfl⟩
theorem rd_new (W : World) (cs : Array Value) (e : TypeId) : Rd (W.alloc (.cells cs e)) (some ⟨W.heap.size, 0, none⟩) cs.toList := by
  refine .inr ⟨W.heap.size, 0, rfl, fun j hj => ?_⟩
  rw [Nat.zero_add, (Blk.new W e cs).cell]
  simp
theorem hash_mk (k : Mk.Str) (A : Option Addr) (L : List Mk.Str) (c : Nat) (w : World) (hR : Rd w A (strs L)) (hc : L.length ≤ c) (hk : k.length ≤ 1) (hl : weight L ≤ 4294967296) :
    Calls Try.prog 39 #[.string ⟨k.toArray⟩, .slice A L.length c] w fun e w' => e = .returned (.string ⟨(Sh.sha (k ++ L.flatten)).toArray⟩) ∧ Below w.heap.size w w' := by
  have hfl : L.flatten.length ≤ 4294967296 := by rw [List.length_flatten]; unfold weight at hl; omega
  have hLl : L.length ≤ 4294967296 := by unfold weight at hl; omega
  have kj := join_spec A L c w hR hc (by omega)
  obtain ⟨M, hM⟩ : ∃ M, L.flatten = M := ⟨_, rfl⟩
  rw [hM] at kj hfl ⊢
  have HR := Lib.hid hR
  clear hR hM
  have hba := bytes_append k M
  have f1 : ¬ (IntKind.i64.max < (k.length : Int) + (M.length : Int)) := by show ¬ ((9223372036854775807 : Int) < _); omega
  have f2 : ¬ (9223372036854775807 < k.length + M.length) := by omega
  go_enter Try.func39, Try.ntmps39
  go_wp2_with fail
  refine kj.mono ?_
  rintro e w1 ⟨rfl, b1⟩
  go_wp2_with fail
  refine (sum_below (k ++ M) (by rw [List.length_append]; omega) w1).mono ?_
  rintro e w2 ⟨rfl, b2⟩
  go_wp2
  go_ret
  exact ⟨rfl, (((St.nil w).under b1).under b2).below⟩
theorem leaf_spec (d : Mk.Str) (hd : d.length ≤ 1073741824) (w : World) : Calls Try.prog 15 #[.string ⟨d.toArray⟩] w fun e w' => e = .returned (.string ⟨(Mk.leaf d).toArray⟩) ∧ Below w.heap.size w w' := by
  have ba : Below w.heap.size w (w.alloc (.cells #[.string ⟨d.toArray⟩] 9)) := (Below.refl _ w).alloc (Nat.le_refl _) _
  have k := hash_mk [0] (some ⟨w.heap.size, 0, none⟩) [d] 1 (w.alloc (.cells #[.string ⟨d.toArray⟩] 9)) (rd_new w #[.string ⟨d.toArray⟩] 9) (by simp) (by simp) (by simp [weight]; omega)
  rw [show [0] ++ [d].flatten = 0 :: d by simp] at k
  go_enter Try.func15, Try.ntmps15
  go_wp2_with fail
  refine k.mono ?_
  rintro e w1 ⟨rfl, b1⟩
  go_wp2
  go_ret
  exact ⟨rfl, ba.trans (b1.mono ba.size)⟩
theorem node_spec (l r : Mk.Str) (w : World) : Calls Try.prog 17 #[.string ⟨l.toArray⟩, .string ⟨r.toArray⟩] w fun e w' => e = .returned (.string ⟨(Mk.node l r).toArray⟩) ∧ Below w.heap.size w w' := by
  have k1 := digest_spec l
  have k2 := digest_spec r
  by_cases h1 : l.length = 32
  · rw [decide_eq_true h1] at k1
    by_cases h2 : r.length = 32
    · rw [decide_eq_true h2] at k2
      have ba : Below w.heap.size w (w.alloc (.cells #[.string ⟨l.toArray⟩, .string ⟨r.toArray⟩] 9)) := (Below.refl _ w).alloc (Nat.le_refl _) _
      have k := hash_mk [1] (some ⟨w.heap.size, 0, none⟩) [l, r] 2 (w.alloc (.cells #[.string ⟨l.toArray⟩, .string ⟨r.toArray⟩] 9)) (rd_new w #[.string ⟨l.toArray⟩, .string ⟨r.toArray⟩] 9) (by simp) (by simp) (by simp [weight]; omega)
      have e1 : [1] ++ [l, r].flatten = 1 :: (l ++ r) := by simp
      have e2 : Mk.node l r = Sh.sha (1 :: (l ++ r)) := by unfold Mk.node; rw [if_pos ⟨h1, h2⟩]
      rw [e1, ← e2] at k
      clear h1 h2 e1 e2
      go_enter Try.func17, Try.ntmps17
      go_wp2_with (first
        | ((with_reducible refine (k1 _).mono ?_); rintro e w1 ⟨rfl, rfl⟩)
        | ((with_reducible refine (k2 _).mono ?_); rintro e w1 ⟨rfl, rfl⟩)
        | fail)
      refine k.mono ?_
      rintro e w1 ⟨rfl, b1⟩
      go_wp2
      go_ret
      exact ⟨rfl, ba.trans (b1.mono ba.size)⟩
    · rw [decide_eq_false h2] at k2
      have e2 : Mk.node l r = [] := by unfold Mk.node; rw [if_neg (fun h => h2 h.2)]
      rw [e2]
      clear h1 h2 e2
      go_enter Try.func17, Try.ntmps17
      go_wp2_with (first
        | ((with_reducible refine (k1 _).mono ?_); rintro e w1 ⟨rfl, rfl⟩)
        | ((with_reducible refine (k2 _).mono ?_); rintro e w1 ⟨rfl, rfl⟩)
        | fail)
      go_ret
      exact ⟨rfl, Below.refl _ _⟩
  · rw [decide_eq_false h1] at k1
    have e2 : Mk.node l r = [] := by unfold Mk.node; rw [if_neg (fun h => h1 h.1)]
    rw [e2]
    clear h1 e2
    go_enter Try.func17, Try.ntmps17
    go_wp2_with (first
      | ((with_reducible refine (k1 _).mono ?_); rintro e w1 ⟨rfl, rfl⟩)
      | fail)
    go_ret
    exact ⟨rfl, Below.refl _ _⟩
theorem rleaf_spec (d : Mk.Str) (hd : d.length ≤ 1073741824) (w : World) : Calls Try.prog 16 #[.string ⟨d.toArray⟩] w fun e w' => e = .returned (.string ⟨(Mk.leaf d).toArray⟩) ∧ Below w.heap.size w w' := by
  have hba := bytes_append [0] d
  have f1 : ¬ (IntKind.i64.max < 1 + (d.length : Int)) := by show ¬ ((9223372036854775807 : Int) < _); omega
  have f2 : ¬ (9223372036854775807 < 1 + d.length) := by omega
  have k := fun W => rsum_spec (0 :: d) (by simp; omega) W
  rw [show [0] ++ d = 0 :: d from rfl] at hba
  have hm : Mk.leaf d = Sh.sha (0 :: d) := rfl
  rw [hm]
  clear hm
  generalize 0 :: d = D at k hba
  go_enter Try.func16, Try.ntmps16
  go_wp2_with fail
  refine (k _).mono ?_
  rintro e w1 ⟨rfl, b1⟩
  go_wp2
  go_ret
  exact ⟨rfl, b1⟩
theorem rnode_spec (l r : Mk.Str) (w : World) : Calls Try.prog 18 #[.string ⟨l.toArray⟩, .string ⟨r.toArray⟩] w fun e w' => e = .returned (.string ⟨(Mk.node l r).toArray⟩) ∧ Below w.heap.size w w' := by
  have k1 := rdigest_spec l
  have k2 := rdigest_spec r
  by_cases h1 : l.length = 32
  · rw [decide_eq_true h1] at k1
    by_cases h2 : r.length = 32
    · rw [decide_eq_true h2] at k2
      have e2 : Mk.node l r = Sh.sha ([1] ++ l ++ r) := by unfold Mk.node; rw [if_pos ⟨h1, h2⟩]; rfl
      have k := fun W => rsum_spec ([1] ++ l ++ r) (by simp; omega) W
      rw [← e2] at k
      have hb1 := bytes_append [1] l
      have hb2 := bytes_append ([1] ++ l) r
      have hx : ([1] ++ l).length = 33 := by simp; omega
      obtain ⟨X, hX⟩ : ∃ X, [1] ++ l = X := ⟨_, rfl⟩
      rw [hX] at k hb1 hb2 hx
      obtain ⟨Y, hY⟩ : ∃ Y, X ++ r = Y := ⟨_, rfl⟩
      rw [hY] at k hb2
      have f1 : ¬ (IntKind.i64.max < 1 + (l.length : Int)) := by show ¬ ((9223372036854775807 : Int) < _); omega
      have f2 : ¬ (9223372036854775807 < 1 + l.length) := by omega
      have f3 : ¬ (IntKind.i64.max < (X.length : Int) + (r.length : Int)) := by show ¬ ((9223372036854775807 : Int) < _); omega
      have f4 : ¬ (9223372036854775807 < X.length + r.length) := by omega
      clear h1 h2 e2 hX hY hx
      go_enter Try.func18, Try.ntmps18
      go_wp2_with (first
        | ((with_reducible refine (k1 _).mono ?_); rintro e w1 ⟨rfl, rfl⟩)
        | ((with_reducible refine (k2 _).mono ?_); rintro e w1 ⟨rfl, rfl⟩)
        | fail)
      refine (k _).mono ?_
      rintro e w1 ⟨rfl, b1⟩
      go_wp2
      go_ret
      exact ⟨rfl, b1⟩
    · rw [decide_eq_false h2] at k2
      have e2 : Mk.node l r = [] := by unfold Mk.node; rw [if_neg (fun h => h2 h.2)]
      rw [e2]
      clear h1 h2 e2
      go_enter Try.func18, Try.ntmps18
      go_wp2_with (first
        | ((with_reducible refine (k1 _).mono ?_); rintro e w1 ⟨rfl, rfl⟩)
        | ((with_reducible refine (k2 _).mono ?_); rintro e w1 ⟨rfl, rfl⟩)
        | fail)
      go_ret
      exact ⟨rfl, Below.refl _ _⟩
  · rw [decide_eq_false h1] at k1
    have e2 : Mk.node l r = [] := by unfold Mk.node; rw [if_neg (fun h => h1 h.1)]
    rw [e2]
    clear h1 e2
    go_enter Try.func18, Try.ntmps18
    go_wp2_with (first
      | ((with_reducible refine (k1 _).mono ?_); rintro e w1 ⟨rfl, rfl⟩)
      | fail)
    go_ret
    exact ⟨rfl, Below.refl _ _⟩
end Go.Proofs.Ytiklfjehhdbhfaa
