/-
  Inclusion proofs, in the program and in the reference. Conditions: at most 2^40 leaves.
-/
import Derived.Test.YtiklfjehhdbhfaaMkB
import Derived.Test.YtiklfjehhdbhfaaStep
namespace Go.Proofs.Ytiklfjehhdbhfaa
set_option linter.unusedVariables false
open Go.RowKit

theorem info_str : (Try.prog.info? 9).map (fun i => (i.zero, i.size, i.bytes)) = some (some (.string ⟨#[]⟩), 1, 16) := by kernel_rfl
theorem strs_append (a b : List Mk.Str) : strs (a ++ b) = strs a ++ strs b := by simp [strs]
theorem stepA {lo : Nat} {w0 w : World} {Rs : List Res} {e : TypeId} {v : Value} {n : Nat} {xs : List Value} {P : Program} {ops : Array Oper} {o : Oper} {a : Act} {K : Act → World → Prop} {Q : Exit → Act → World → Prop} {E : Prop} (t : TypeId) {z : Value} {bytes : Nat} {u : Value} {te : TypeId}
    (h : St lo w0 w (ownR e 1 v n xs :: Rs)) (ht : P.underlying t = some (.slice e)) (hi : (P.info? e).map (fun i => (i.zero, i.size, i.bytes)) = some (some z, 1, bytes)) (hzs : z.cells.size = 1)
    (s x : Operand) (ho : o.op = .call { callee := .builtin .append, args := #[s, x], argTypes := #[t, t] }) (hgd : o.guard = none)
    (hs : a.eval s = v) (hx : a.eval x = .slice (some ⟨w.heap.size, 0, none⟩) 1 1) (hu : u.oneCell' = true) (h63 : n + 1 ≤ maxLen) (hbytes : (n + 1) * bytes ≤ 140737488355328)
    (hk : ∀ g cap w', St lo w0 w' (ownR e 1 (.slice (some ⟨g, 0, none⟩) (n + 1) cap) (n + 1) (xs ++ [u]) :: Rs) → K (a.put o.dst (.slice (some ⟨g, 0, none⟩) (n + 1) cap)) w') :
    if Region.wanted o (yielded ops a.tmps) = true then Oper.wp P o a (w.alloc (.cells #[u] te)) K Q else E := by
  rw [if_pos (by unfold Region.wanted; rw [hgd])]
  refine appendS t (h.alloc0 _) ht hi hzs (by decide) s x ho hs ⟨w.heap.size, 0, none⟩ 1 1 [u] hx rfl ?_ ?_ (by decide) h63 hbytes (fun g cap w' r1 _ _ => hk g cap w' r1)
  · intro j y hj
    match j, hj with
    | 0, hj => simp at hj; subst hj; exact (Blk.new w te #[_]).cell 0
  · intro y hy; simp at hy; subst hy; exact hu
theorem Mk.depth_le (i n : Nat) : Mk.depth i n ≤ n := by
  induction n using Nat.strongRecOn generalizing i with
  | _ n ih =>
    by_cases h : n < 2
    · rw [Mk.depth_one i n h]; omega
    · have h1 := Mk.split_lt (n := n) (by omega)
      have h2 := Mk.split_pos n
      by_cases hi : i < Mk.split n
      · rw [Mk.depth_left i n (by omega) hi]; have := ih (Mk.split n) h1 i; omega
      · rw [Mk.depth_right i n (by omega) hi]; have := ih (n - Mk.split n) (by omega) (i - Mk.split n); omega
set_option maxRecDepth 20000 in
set_option maxHeartbeats 4000000 in
theorem mincl_spec : ∀ (n : Nat) (A : Option Addr) (L : List Mk.Str) (i c : Nat) (w : World), L.length ≤ n → n ≤ 1099511627776 → Rd w A (strs L) → L.length ≤ c → c ≤ maxLen → i < L.length →
    Calls Try.prog 34 #[.slice A L.length c, .int .i64 (i : Int)] w fun e w' => ∃ v, e = .returned v ∧ St w.heap.size w w' [ownR 9 1 v (Mk.incl L i).length (strs (Mk.incl L i))] := by
  intro n
  induction n with
  | zero => intro A L i c w hl hn hR hc hm hi; omega
  | succ n ih =>
    intro A L i c w hl hn hR hc hm hi
    by_cases h2 : L.length < 2
    · have h1 : L.length = 1 := by omega
      rw [Mk.incl_one L i h2, h1]
      clear hl h2 hR hc hi h1
      go_enter Try.func34, Try.ntmps34
      go_wp2
      go_ret
      exact ⟨_, rfl, (St.nil w).new_own (Below.refl _ w) (World.ownsRow_nil _ _ _ _)⟩
    · obtain ⟨b, off, hA, _⟩ := hR.str (k := 0) (by omega)
      subst hA
      have hk0 := Mk.split_pos L.length
      have hk1 := Mk.split_lt (n := L.length) (by omega)
      have ks := fun W => split_spec L.length (by omega) (by omega) W
      obtain ⟨k, hk⟩ : ∃ k, Mk.split L.length = k := ⟨_, rfl⟩
      have ht := rd_take hR k
      have hd := rd_drop hR k
      have lt : k ≤ L.length → (L.take k).length = k := fun h => by rw [List.length_take]; omega
      have ld : (L.drop k).length = L.length - k := List.length_drop
      by_cases hik : i < k
      · rw [hk] at hk0 hk1 ks
        have k1 := fun (W : World) (hb : Below w.heap.size w W) => ih (some ⟨b, off, none⟩) (L.take k) i c W (by rw [lt (by omega)]; omega) (by omega) (ht.below hb) (by rw [lt (by omega)]; omega) hm (by rw [lt (by omega)]; omega)
        have k2 := fun (W : World) (hb : Below w.heap.size w W) => mroot_spec (L.length) (some ⟨b, off + k, none⟩) (L.drop k) (c - k) W (by omega) (by omega) (hd.below hb) (by omega) (by unfold maxLen at hm ⊢; omega)
        have hin := Mk.incl_left L i (by omega) (by rw [hk]; exact hik)
        have hml := Mk.incl_length _ (L.take k) i rfl
        have hmd := Mk.depth_le i (L.take k).length
        rw [lt (by omega)] at k1 hml hmd
        rw [ld] at k2
        rw [hk] at hin
        have HN := Lib.hid hin
        generalize Mk.incl (L.take k) i = M at k1 HN hml
        generalize Mk.root (L.drop k) = R at k2 HN
        obtain ⟨N, hN⟩ : ∃ N, L.length = N := ⟨_, rfl⟩
        rw [hN] at hl hc h2 hk1 ks hi k2 ⊢
        have hM : M.length ≤ N := by omega
        have q2 : M.length + 1 ≤ maxLen := by unfold maxLen; omega
        have q1 : (M.length + 1) * 16 ≤ 140737488355328 := by omega
        obtain ⟨mm, hmm⟩ : ∃ mm, M.length = mm := ⟨_, rfl⟩
        have HM := Lib.hid (show (mm + 1 : Nat) = M.length + 1 by rw [hmm])
        have HX := Lib.hid (And.intro hN (And.intro hk (And.intro hR (And.intro ht hd))))
        clear hN hk hR ht hd lt ld ih hin hml hmd hM hmm
        have i0 : ((N : Int) == 1) = false := by rw [beq_eq_false_iff_ne]; omega
        have i2 : (0 : Int) ≤ (k : Int) := by omega
        have i3 : (k : Int) ≤ (N : Int) := by omega
        have i4 : (k : Int) ≤ (c : Int) := by omega
        have i5 : (N : Int) ≤ (c : Int) := by omega
        have i6 : ¬ (k = c) := by omega
        have i7 : ((N - k : Nat) : Int) = (N : Int) - (k : Int) := by omega
        have i8 : ((c - k : Nat) : Int) = (c : Int) - (k : Int) := by omega
        have i9 : ¬ (c = k) := by omega
        have g1 : decide ((i : Int) < (k : Int)) = true := by simp; omega
        unfold maxLen at hm
        go_enter Try.func34, Try.ntmps34
        go_wp2_with (first
          | ((with_reducible refine (ks _).mono ?_); rintro e w1 ⟨rfl, rfl⟩)
          | fail)
        have b0 : Below w.heap.size w w.drew := (Below.refl _ w).drew
        have s0 : St w.heap.size w w.drew [] := (St.nil w).drew
        go_region_held3 (fun w' => w.heap.size ≤ w'.heap.size)
          (first
            | exact Nat.le_refl _
            | exact h8.size
            | exact (h2.alloc0 _).size
            | exact h2.size
            | exact h1.size
            | fail)
          (first
            | (with_reducible refine (k1 _ b0).mono ?_
               rintro e w1 ⟨v1, rfl, t1⟩
               have h1 := s0.join t1)
            | (with_reducible refine (k2 _ h1.below).mono ?_
               rintro e w2 ⟨rfl, c2⟩
               have h2 := h1.under c2)
            | (refine stepA 22 (te := 9) (u := .string ⟨R.toArray⟩) h2 Try.underlying22 info_str rfl _ _ (by rfl) (by rfl) (by rfl) (by rfl) rfl q2 q1 ?_
               intro gg cap w5 h8)
            | fail)
        all_goals
          go_wp2
          go_ret
          refine ⟨_, rfl, ?_⟩
          rw [HN.out, strs_append, List.length_append]
          exact h8
      · rw [hk] at hk0 hk1 ks
        have k1 := fun (W : World) (hb : Below w.heap.size w W) => ih (some ⟨b, off + k, none⟩) (L.drop k) (i - k) (c - k) W (by omega) (by omega) (hd.below hb) (by omega) (by unfold maxLen at hm ⊢; omega) (by omega)
        have k2 := fun (W : World) (hb : Below w.heap.size w W) => mroot_spec (L.length) (some ⟨b, off, none⟩) (L.take k) c W (by rw [lt (by omega)]; omega) (by omega) (ht.below hb) (by rw [lt (by omega)]; omega) hm
        have hin := Mk.incl_right L i (by omega) (by rw [hk]; exact hik)
        have hml := Mk.incl_length _ (L.drop k) (i - k) rfl
        have hmd := Mk.depth_le (i - k) (L.drop k).length
        rw [ld] at k1 hml hmd
        rw [lt (by omega)] at k2
        rw [hk] at hin
        have HN := Lib.hid hin
        have j1 : (i : Int) - (k : Int) = ((i - k : Nat) : Int) := by omega
        generalize i - k = i' at k1 HN hml hmd j1
        generalize Mk.incl (L.drop k) i' = M at k1 HN hml
        generalize Mk.root (L.take k) = R at k2 HN
        obtain ⟨N, hN⟩ : ∃ N, L.length = N := ⟨_, rfl⟩
        rw [hN] at hl hc h2 hk1 ks hi hml hmd k1 ⊢
        have hM : M.length ≤ N := by omega
        have q2 : M.length + 1 ≤ maxLen := by unfold maxLen; omega
        have q1 : (M.length + 1) * 16 ≤ 140737488355328 := by omega
        obtain ⟨mm, hmm⟩ : ∃ mm, M.length = mm := ⟨_, rfl⟩
        have HM := Lib.hid (show (mm + 1 : Nat) = M.length + 1 by rw [hmm])
        have HX := Lib.hid (And.intro hN (And.intro hk (And.intro hR (And.intro ht hd))))
        clear hN hk hR ht hd lt ld ih hin hml hmd hM hmm
        have i0 : ((N : Int) == 1) = false := by rw [beq_eq_false_iff_ne]; omega
        have i2 : (0 : Int) ≤ (k : Int) := by omega
        have i3 : (k : Int) ≤ (N : Int) := by omega
        have i4 : (k : Int) ≤ (c : Int) := by omega
        have i5 : (N : Int) ≤ (c : Int) := by omega
        have i6 : ¬ (k = c) := by omega
        have i7 : ((N - k : Nat) : Int) = (N : Int) - (k : Int) := by omega
        have i8 : ((c - k : Nat) : Int) = (c : Int) - (k : Int) := by omega
        have i9 : ¬ (c = k) := by omega
        have j2 : IntKind.i64.wrap (i' : Int) = (i' : Int) := by rw [IntWalk.i64_left, IntWalk.wrap64_in _ (by omega)]
        have g1 : decide ((i : Int) < (k : Int)) = false := by simp; omega
        unfold maxLen at hm
        go_enter Try.func34, Try.ntmps34
        go_wp2_with (first
          | ((with_reducible refine (ks _).mono ?_); rintro e w1 ⟨rfl, rfl⟩)
          | fail)
        have b0 : Below w.heap.size w w.drew := (Below.refl _ w).drew
        have s0 : St w.heap.size w w.drew [] := (St.nil w).drew
        go_region_held3 (fun w' => w.heap.size ≤ w'.heap.size)
          (first
            | exact Nat.le_refl _
            | exact h8.size
            | exact (h2.alloc0 _).size
            | exact h2.size
            | exact h1.size
            | fail)
          (first
            | (with_reducible refine (k1 _ b0).mono ?_
               rintro e w1 ⟨v1, rfl, t1⟩
               have h1 := s0.join t1)
            | (with_reducible refine (k2 _ h1.below).mono ?_
               rintro e w2 ⟨rfl, c2⟩
               have h2 := h1.under c2)
            | (refine stepA 22 (te := 9) (u := .string ⟨R.toArray⟩) h2 Try.underlying22 info_str rfl _ _ (by rfl) (by rfl) (by rfl) (by rfl) rfl q2 q1 ?_
               intro gg cap w5 h8)
            | fail)
        all_goals
          go_wp2
          go_ret
          refine ⟨_, rfl, ?_⟩
          rw [HN.out, strs_append, List.length_append]
          exact h8
set_option maxRecDepth 20000 in
set_option maxHeartbeats 4000000 in
theorem rincl_spec : ∀ (n : Nat) (A : Option Addr) (L : List Mk.Str) (i c : Nat) (w : World), L.length ≤ n → n ≤ 1099511627776 → Rd w A (strs L) → L.length ≤ c → c ≤ maxLen → i < L.length →
    Calls Try.prog 36 #[.slice A L.length c, .int .i64 (i : Int)] w fun e w' => ∃ v, e = .returned v ∧ St w.heap.size w w' [ownR 9 1 v (Mk.incl L i).length (strs (Mk.incl L i))] := by
  intro n
  induction n with
  | zero => intro A L i c w hl hn hR hc hm hi; omega
  | succ n ih =>
    intro A L i c w hl hn hR hc hm hi
    by_cases h2 : L.length < 2
    · have h1 : L.length = 1 := by omega
      rw [Mk.incl_one L i h2, h1]
      clear hl h2 hR hc hi h1
      go_enter Try.func36, Try.ntmps36
      go_wp2
      go_ret
      exact ⟨_, rfl, (St.nil w).new_own (Below.refl _ w) (World.ownsRow_nil _ _ _ _)⟩
    · obtain ⟨b, off, hA, _⟩ := hR.str (k := 0) (by omega)
      subst hA
      have hk0 := Mk.split_pos L.length
      have hk1 := Mk.split_lt (n := L.length) (by omega)
      have ks := fun W => rsplit_spec L.length (by omega) (by omega) W
      obtain ⟨k, hk⟩ : ∃ k, Mk.split L.length = k := ⟨_, rfl⟩
      have ht := rd_take hR k
      have hd := rd_drop hR k
      have lt : k ≤ L.length → (L.take k).length = k := fun h => by rw [List.length_take]; omega
      have ld : (L.drop k).length = L.length - k := List.length_drop
      by_cases hik : i < k
      · rw [hk] at hk0 hk1 ks
        have k1 := fun (W : World) (hb : Below w.heap.size w W) => ih (some ⟨b, off, none⟩) (L.take k) i c W (by rw [lt (by omega)]; omega) (by omega) (ht.below hb) (by rw [lt (by omega)]; omega) hm (by rw [lt (by omega)]; omega)
        have k2 := fun (W : World) (hb : Below w.heap.size w W) => rroot_spec (L.length) (some ⟨b, off + k, none⟩) (L.drop k) (c - k) W (by omega) (by omega) (hd.below hb) (by omega) (by unfold maxLen at hm ⊢; omega)
        have hin := Mk.incl_left L i (by omega) (by rw [hk]; exact hik)
        have hml := Mk.incl_length _ (L.take k) i rfl
        have hmd := Mk.depth_le i (L.take k).length
        rw [lt (by omega)] at k1 hml hmd
        rw [ld] at k2
        rw [hk] at hin
        have HN := Lib.hid hin
        generalize Mk.incl (L.take k) i = M at k1 HN hml
        generalize Mk.root (L.drop k) = R at k2 HN
        obtain ⟨N, hN⟩ : ∃ N, L.length = N := ⟨_, rfl⟩
        rw [hN] at hl hc h2 hk1 ks hi k2 ⊢
        have hM : M.length ≤ N := by omega
        have q2 : M.length + 1 ≤ maxLen := by unfold maxLen; omega
        have q1 : (M.length + 1) * 16 ≤ 140737488355328 := by omega
        obtain ⟨mm, hmm⟩ : ∃ mm, M.length = mm := ⟨_, rfl⟩
        have HM := Lib.hid (show (mm + 1 : Nat) = M.length + 1 by rw [hmm])
        have HX := Lib.hid (And.intro hN (And.intro hk (And.intro hR (And.intro ht hd))))
        clear hN hk hR ht hd lt ld ih hin hml hmd hM hmm
        have i0 : ((N : Int) == 1) = false := by rw [beq_eq_false_iff_ne]; omega
        have i2 : (0 : Int) ≤ (k : Int) := by omega
        have i3 : (k : Int) ≤ (N : Int) := by omega
        have i4 : (k : Int) ≤ (c : Int) := by omega
        have i5 : (N : Int) ≤ (c : Int) := by omega
        have i6 : ¬ (k = c) := by omega
        have i7 : ((N - k : Nat) : Int) = (N : Int) - (k : Int) := by omega
        have i8 : ((c - k : Nat) : Int) = (c : Int) - (k : Int) := by omega
        have i9 : ¬ (c = k) := by omega
        have g1 : decide ((i : Int) < (k : Int)) = true := by simp; omega
        unfold maxLen at hm
        go_enter Try.func36, Try.ntmps36
        go_wp2_with (first
          | ((with_reducible refine (ks _).mono ?_); rintro e w1 ⟨rfl, rfl⟩)
          | fail)
        have b0 : Below w.heap.size w w.drew := (Below.refl _ w).drew
        have s0 : St w.heap.size w w.drew [] := (St.nil w).drew
        go_region_held3 (fun w' => w.heap.size ≤ w'.heap.size)
          (first
            | exact Nat.le_refl _
            | exact h8.size
            | exact (h2.alloc0 _).size
            | exact h2.size
            | exact h1.size
            | fail)
          (first
            | (with_reducible refine (k1 _ b0).mono ?_
               rintro e w1 ⟨v1, rfl, t1⟩
               have h1 := s0.join t1)
            | (with_reducible refine (k2 _ h1.below).mono ?_
               rintro e w2 ⟨rfl, c2⟩
               have h2 := h1.under c2)
            | (refine stepA 22 (te := 9) (u := .string ⟨R.toArray⟩) h2 Try.underlying22 info_str rfl _ _ (by rfl) (by rfl) (by rfl) (by rfl) rfl q2 q1 ?_
               intro gg cap w5 h8)
            | fail)
        all_goals
          go_wp2
          go_ret
          refine ⟨_, rfl, ?_⟩
          rw [HN.out, strs_append, List.length_append]
          exact h8
      · rw [hk] at hk0 hk1 ks
        have k1 := fun (W : World) (hb : Below w.heap.size w W) => ih (some ⟨b, off + k, none⟩) (L.drop k) (i - k) (c - k) W (by omega) (by omega) (hd.below hb) (by omega) (by unfold maxLen at hm ⊢; omega) (by omega)
        have k2 := fun (W : World) (hb : Below w.heap.size w W) => rroot_spec (L.length) (some ⟨b, off, none⟩) (L.take k) c W (by rw [lt (by omega)]; omega) (by omega) (ht.below hb) (by rw [lt (by omega)]; omega) hm
        have hin := Mk.incl_right L i (by omega) (by rw [hk]; exact hik)
        have hml := Mk.incl_length _ (L.drop k) (i - k) rfl
        have hmd := Mk.depth_le (i - k) (L.drop k).length
        rw [ld] at k1 hml hmd
        rw [lt (by omega)] at k2
        rw [hk] at hin
        have HN := Lib.hid hin
        have j1 : (i : Int) - (k : Int) = ((i - k : Nat) : Int) := by omega
        generalize i - k = i' at k1 HN hml hmd j1
        generalize Mk.incl (L.drop k) i' = M at k1 HN hml
        generalize Mk.root (L.take k) = R at k2 HN
        obtain ⟨N, hN⟩ : ∃ N, L.length = N := ⟨_, rfl⟩
        rw [hN] at hl hc h2 hk1 ks hi hml hmd k1 ⊢
        have hM : M.length ≤ N := by omega
        have q2 : M.length + 1 ≤ maxLen := by unfold maxLen; omega
        have q1 : (M.length + 1) * 16 ≤ 140737488355328 := by omega
        obtain ⟨mm, hmm⟩ : ∃ mm, M.length = mm := ⟨_, rfl⟩
        have HM := Lib.hid (show (mm + 1 : Nat) = M.length + 1 by rw [hmm])
        have HX := Lib.hid (And.intro hN (And.intro hk (And.intro hR (And.intro ht hd))))
        clear hN hk hR ht hd lt ld ih hin hml hmd hM hmm
        have i0 : ((N : Int) == 1) = false := by rw [beq_eq_false_iff_ne]; omega
        have i2 : (0 : Int) ≤ (k : Int) := by omega
        have i3 : (k : Int) ≤ (N : Int) := by omega
        have i4 : (k : Int) ≤ (c : Int) := by omega
        have i5 : (N : Int) ≤ (c : Int) := by omega
        have i6 : ¬ (k = c) := by omega
        have i7 : ((N - k : Nat) : Int) = (N : Int) - (k : Int) := by omega
        have i8 : ((c - k : Nat) : Int) = (c : Int) - (k : Int) := by omega
        have i9 : ¬ (c = k) := by omega
        have j2 : IntKind.i64.wrap (i' : Int) = (i' : Int) := by rw [IntWalk.i64_left, IntWalk.wrap64_in _ (by omega)]
        have g1 : decide ((i : Int) < (k : Int)) = false := by simp; omega
        unfold maxLen at hm
        go_enter Try.func36, Try.ntmps36
        go_wp2_with (first
          | ((with_reducible refine (ks _).mono ?_); rintro e w1 ⟨rfl, rfl⟩)
          | fail)
        have b0 : Below w.heap.size w w.drew := (Below.refl _ w).drew
        have s0 : St w.heap.size w w.drew [] := (St.nil w).drew
        go_region_held3 (fun w' => w.heap.size ≤ w'.heap.size)
          (first
            | exact Nat.le_refl _
            | exact h8.size
            | exact (h2.alloc0 _).size
            | exact h2.size
            | exact h1.size
            | fail)
          (first
            | (with_reducible refine (k1 _ b0).mono ?_
               rintro e w1 ⟨v1, rfl, t1⟩
               have h1 := s0.join t1)
            | (with_reducible refine (k2 _ h1.below).mono ?_
               rintro e w2 ⟨rfl, c2⟩
               have h2 := h1.under c2)
            | (refine stepA 22 (te := 9) (u := .string ⟨R.toArray⟩) h2 Try.underlying22 info_str rfl _ _ (by rfl) (by rfl) (by rfl) (by rfl) rfl q2 q1 ?_
               intro gg cap w5 h8)
            | fail)
        all_goals
          go_wp2
          go_ret
          refine ⟨_, rfl, ?_⟩
          rw [HN.out, strs_append, List.length_append]
          exact h8
end Go.Proofs.Ytiklfjehhdbhfaa
