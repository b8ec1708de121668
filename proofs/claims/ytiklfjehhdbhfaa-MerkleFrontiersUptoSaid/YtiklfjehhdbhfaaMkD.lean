/-
  Consistency proofs, in the program and in the reference. Conditions: at most 2^40 leaves.
-/
import Derived.Test.YtiklfjehhdbhfaaMkC
namespace Go.Proofs.Ytiklfjehhdbhfaa
set_option linter.unusedVariables false
open Go.RowKit

theorem Mk.cdepth_le (m n : Nat) (b : Bool) : Mk.cdepth m n b ≤ n + 1 := by
  induction n using Nat.strongRecOn generalizing m b with
  | _ n ih =>
    by_cases hm : m = n
    · subst hm; rw [Mk.cdepth_same]; cases b <;> simp
    · by_cases h : n < 2
      · rw [Mk.cdepth, if_neg hm, dif_pos h]; omega
      · have h1 := Mk.split_lt (n := n) (by omega)
        have h2 := Mk.split_pos n
        by_cases hi : m ≤ Mk.split n
        · rw [Mk.cdepth_left m n b (by omega) hm hi]; have := ih (Mk.split n) h1 m b; omega
        · rw [Mk.cdepth_right m n b (by omega) hm hi]; have := ih (n - Mk.split n) (by omega) (m - Mk.split n) false; omega
set_option maxRecDepth 20000 in
set_option maxHeartbeats 4000000 in
theorem mcons_spec : ∀ (n : Nat) (A : Option Addr) (L : List Mk.Str) (m c : Nat) (q : Bool) (w : World), L.length ≤ n → n ≤ 1099511627776 → Rd w A (strs L) → L.length ≤ c → c ≤ maxLen → 1 ≤ m → m ≤ L.length →
    Calls Try.prog 37 #[.slice A L.length c, .int .i64 (m : Int), .bool q] w fun e w' => ∃ v, e = .returned v ∧ St w.heap.size w w' [ownR 9 1 v (Mk.cons L m q).length (strs (Mk.cons L m q))] := by
  intro n
  induction n with
  | zero => intro A L m c q w hl hn hR hc hm hm1 hmn; omega
  | succ n ih =>
    intro A L m c q w hl hn hR hc hm hm1 hmn
    by_cases hmN : m = L.length
    · have k0 := mroot_spec (L.length) A L c w (Nat.le_refl _) (by omega) hR hc hm
      have hcw := Mk.cons_whole L q
      rw [← hmN] at hcw k0 ⊢
      rw [hcw]
      have g1 : ((m : Int) == (m : Int)) = true := by simp
      clear hmN hcw hl hR hc hmn ih
      generalize Mk.root L = R at k0 ⊢
      cases q with
      | true =>
        go_enter Try.func37, Try.ntmps37
        go_wp2
        go_ret
        exact ⟨_, rfl, (St.nil w).new_own (Below.refl _ w) (World.ownsRow_nil _ _ _ _)⟩
      | false =>
        go_enter Try.func37, Try.ntmps37
        go_wp2_with fail
        refine k0.mono ?_
        rintro e w1 ⟨rfl, b1⟩
        have h1 := ((St.nil w).under b1).new_own ((Below.refl _ w1).alloc (Nat.le_refl _) _) (World.ownsRow_lit (e := 9) (size := 1) w1 #[.string ⟨R.toArray⟩] 1 (Nat.le_refl _) (by decide) rfl)
        clear k0
        go_wp2
        go_ret
        exact ⟨_, rfl, h1⟩
    · obtain ⟨b, off, hA, _⟩ := hR.str (k := 0) (by omega)
      subst hA
      have hk0 := Mk.split_pos L.length
      have hk1 := Mk.split_lt (n := L.length) (by omega)
      have ks := fun W => split_spec L.length (by omega) (by omega) W
      obtain ⟨k, hk⟩ : ∃ k, Mk.split L.length = k := ⟨_, rfl⟩
      have ht := rd_take hR k
      have hd := rd_drop hR k
      have lt : k ≤ L.length → (L.take k).length = k := fun h => by rw [List.length_take]; omega
      have ld : (L.drop k).length = L.length - k := List.length_drop
      by_cases hik : m ≤ k
      · rw [hk] at hk0 hk1 ks
        have k1 := fun (W : World) (hb : Below w.heap.size w W) => ih (some ⟨b, off, none⟩) (L.take k) m c q W (by rw [lt (by omega)]; omega) (by omega) (ht.below hb) (by rw [lt (by omega)]; omega) hm hm1 (by rw [lt (by omega)]; omega)
        have k2 := fun (W : World) (hb : Below w.heap.size w W) => mroot_spec (L.length) (some ⟨b, off + k, none⟩) (L.drop k) (c - k) W (by omega) (by omega) (hd.below hb) (by omega) (by unfold maxLen at hm ⊢; omega)
        have hin := Mk.cons_left L m q (by omega) hmN (by rw [hk]; exact hik)
        have hml := Mk.cons_length _ (L.take k) m q rfl hm1 (by rw [lt (by omega)]; omega)
        have hmd := Mk.cdepth_le m (L.take k).length q
        rw [lt (by omega)] at k1 hml hmd
        rw [ld] at k2
        rw [hk] at hin
        have HN := Lib.hid hin
        generalize Mk.cons (L.take k) m q = M at k1 HN hml
        generalize Mk.root (L.drop k) = R at k2 HN
        obtain ⟨N, hN⟩ : ∃ N, L.length = N := ⟨_, rfl⟩
        rw [hN] at hl hc hk1 ks hmn hmN k2 ⊢
        have hM : M.length ≤ N + 1 := by omega
        have q2 : M.length + 1 ≤ maxLen := by unfold maxLen; omega
        have q1 : (M.length + 1) * 16 ≤ 140737488355328 := by omega
        have HX := Lib.hid (And.intro hN (And.intro hk (And.intro hR (And.intro ht hd))))
        clear hN hk hR ht hd lt ld ih hin hml hmd hM
        have i0 : ((m : Int) == (N : Int)) = false := by rw [beq_eq_false_iff_ne]; omega
        have i2 : (0 : Int) ≤ (k : Int) := by omega
        have i3 : (k : Int) ≤ (N : Int) := by omega
        have i4 : (k : Int) ≤ (c : Int) := by omega
        have i5 : (N : Int) ≤ (c : Int) := by omega
        have i6 : ¬ (k = c) := by omega
        have i7 : ((N - k : Nat) : Int) = (N : Int) - (k : Int) := by omega
        have i8 : ((c - k : Nat) : Int) = (c : Int) - (k : Int) := by omega
        have i9 : ¬ (c = k) := by omega
        have g1 : decide ((m : Int) ≤ (k : Int)) = true := by simp; omega
        unfold maxLen at hm
        go_enter Try.func37, Try.ntmps37
        go_wp2_with (first
          | ((with_reducible refine (ks _).mono ?_); rintro e w1 ⟨rfl, rfl⟩)
          | fail)
        have b0 : Below w.heap.size w w.drew := (Below.refl _ w).drew
        have s0 : St w.heap.size w w.drew [] := (St.nil w).drew
        go_region_held3 (fun w' => w.heap.size ≤ w'.heap.size)
          (first
            | exact Nat.le_refl _
            | exact h8.size
            | exact (h2.alloc0 _).size
            | exact h2.size
            | exact h1.size
            | fail)
          (first
            | (with_reducible refine (k1 _ b0).mono ?_
               rintro e w1 ⟨v1, rfl, t1⟩
               have h1 := s0.join t1)
            | (with_reducible refine (k2 _ h1.below).mono ?_
               rintro e w2 ⟨rfl, c2⟩
               have h2 := h1.under c2)
            | (refine stepA 22 (te := 9) (u := .string ⟨R.toArray⟩) h2 Try.underlying22 info_str rfl _ _ (by rfl) (by rfl) (by rfl) (by rfl) rfl q2 q1 ?_
               intro gg cap w5 h8)
            | fail)
        all_goals
          go_wp2
          go_ret
          refine ⟨_, rfl, ?_⟩
          rw [HN.out, strs_append, List.length_append]
          exact h8
      · rw [hk] at hk0 hk1 ks
        have k1 := fun (W : World) (hb : Below w.heap.size w W) => ih (some ⟨b, off + k, none⟩) (L.drop k) (m - k) (c - k) false W (by omega) (by omega) (hd.below hb) (by omega) (by unfold maxLen at hm ⊢; omega) (by omega) (by omega)
        have k2 := fun (W : World) (hb : Below w.heap.size w W) => mroot_spec (L.length) (some ⟨b, off, none⟩) (L.take k) c W (by rw [lt (by omega)]; omega) (by omega) (ht.below hb) (by rw [lt (by omega)]; omega) hm
        have hin := Mk.cons_right L m q (by omega) hmN (by rw [hk]; exact hik)
        have hml := Mk.cons_length _ (L.drop k) (m - k) false rfl (by omega) (by omega)
        have hmd := Mk.cdepth_le (m - k) (L.drop k).length false
        rw [ld] at k1 hml hmd
        rw [lt (by omega)] at k2
        rw [hk] at hin
        have HN := Lib.hid hin
        have j1 : (m : Int) - (k : Int) = ((m - k : Nat) : Int) := by omega
        generalize m - k = m' at k1 HN hml hmd j1
        generalize Mk.cons (L.drop k) m' false = M at k1 HN hml
        generalize Mk.root (L.take k) = R at k2 HN
        obtain ⟨N, hN⟩ : ∃ N, L.length = N := ⟨_, rfl⟩
        rw [hN] at hl hc hk1 ks hmn hmN hml hmd k1 ⊢
        have hM : M.length ≤ N + 1 := by omega
        have q2 : M.length + 1 ≤ maxLen := by unfold maxLen; omega
        have q1 : (M.length + 1) * 16 ≤ 140737488355328 := by omega
        have HX := Lib.hid (And.intro hN (And.intro hk (And.intro hR (And.intro ht hd))))
        clear hN hk hR ht hd lt ld ih hin hml hmd hM
        have i0 : ((m : Int) == (N : Int)) = false := by rw [beq_eq_false_iff_ne]; omega
        have i2 : (0 : Int) ≤ (k : Int) := by omega
        have i3 : (k : Int) ≤ (N : Int) := by omega
        have i4 : (k : Int) ≤ (c : Int) := by omega
        have i5 : (N : Int) ≤ (c : Int) := by omega
        have i6 : ¬ (k = c) := by omega
        have i7 : ((N - k : Nat) : Int) = (N : Int) - (k : Int) := by omega
        have i8 : ((c - k : Nat) : Int) = (c : Int) - (k : Int) := by omega
        have i9 : ¬ (c = k) := by omega
        have j2 : IntKind.i64.wrap (m' : Int) = (m' : Int) := by rw [IntWalk.i64_left, IntWalk.wrap64_in _ (by omega)]
        have g1 : decide ((m : Int) ≤ (k : Int)) = false := by simp; omega
        unfold maxLen at hm
        go_enter Try.func37, Try.ntmps37
        go_wp2_with (first
          | ((with_reducible refine (ks _).mono ?_); rintro e w1 ⟨rfl, rfl⟩)
          | fail)
        have b0 : Below w.heap.size w w.drew := (Below.refl _ w).drew
        have s0 : St w.heap.size w w.drew [] := (St.nil w).drew
        go_region_held3 (fun w' => w.heap.size ≤ w'.heap.size)
          (first
            | exact Nat.le_refl _
            | exact h8.size
            | exact (h2.alloc0 _).size
            | exact h2.size
            | exact h1.size
            | fail)
          (first
            | (with_reducible refine (k1 _ b0).mono ?_
               rintro e w1 ⟨v1, rfl, t1⟩
               have h1 := s0.join t1)
            | (with_reducible refine (k2 _ h1.below).mono ?_
               rintro e w2 ⟨rfl, c2⟩
               have h2 := h1.under c2)
            | (refine stepA 22 (te := 9) (u := .string ⟨R.toArray⟩) h2 Try.underlying22 info_str rfl _ _ (by rfl) (by rfl) (by rfl) (by rfl) rfl q2 q1 ?_
               intro gg cap w5 h8)
            | fail)
        all_goals
          go_wp2
          go_ret
          refine ⟨_, rfl, ?_⟩
          rw [HN.out, strs_append, List.length_append]
          exact h8
set_option maxRecDepth 20000 in
set_option maxHeartbeats 4000000 in
theorem rcons_spec : ∀ (n : Nat) (A : Option Addr) (L : List Mk.Str) (m c : Nat) (q : Bool) (w : World), L.length ≤ n → n ≤ 1099511627776 → Rd w A (strs L) → L.length ≤ c → c ≤ maxLen → 1 ≤ m → m ≤ L.length →
    Calls Try.prog 38 #[.int .i64 (m : Int), .slice A L.length c, .bool q] w fun e w' => ∃ v, e = .returned v ∧ St w.heap.size w w' [ownR 9 1 v (Mk.cons L m q).length (strs (Mk.cons L m q))] := by
  intro n
  induction n with
  | zero => intro A L m c q w hl hn hR hc hm hm1 hmn; omega
  | succ n ih =>
    intro A L m c q w hl hn hR hc hm hm1 hmn
    by_cases hmN : m = L.length
    · have k0 := rroot_spec (L.length) A L c w (Nat.le_refl _) (by omega) hR hc hm
      have hcw := Mk.cons_whole L q
      rw [← hmN] at hcw k0 ⊢
      rw [hcw]
      have g1 : ((m : Int) == (m : Int)) = true := by simp
      clear hmN hcw hl hR hc hmn ih
      generalize Mk.root L = R at k0 ⊢
      cases q with
      | true =>
        go_enter Try.func38, Try.ntmps38
        go_wp2
        go_ret
        exact ⟨_, rfl, (St.nil w).new_own (Below.refl _ w) (World.ownsRow_nil _ _ _ _)⟩
      | false =>
        go_enter Try.func38, Try.ntmps38
        go_wp2_with fail
        refine k0.mono ?_
        rintro e w1 ⟨rfl, b1⟩
        have h1 := ((St.nil w).under b1).new_own ((Below.refl _ w1).alloc (Nat.le_refl _) _) (World.ownsRow_lit (e := 9) (size := 1) w1 #[.string ⟨R.toArray⟩] 1 (Nat.le_refl _) (by decide) rfl)
        clear k0
        go_wp2
        go_ret
        exact ⟨_, rfl, h1⟩
    · obtain ⟨b, off, hA, _⟩ := hR.str (k := 0) (by omega)
      subst hA
      have hk0 := Mk.split_pos L.length
      have hk1 := Mk.split_lt (n := L.length) (by omega)
      have ks := fun W => rsplit_spec L.length (by omega) (by omega) W
      obtain ⟨k, hk⟩ : ∃ k, Mk.split L.length = k := ⟨_, rfl⟩
      have ht := rd_take hR k
      have hd := rd_drop hR k
      have lt : k ≤ L.length → (L.take k).length = k := fun h => by rw [List.length_take]; omega
      have ld : (L.drop k).length = L.length - k := List.length_drop
      by_cases hik : m ≤ k
      · rw [hk] at hk0 hk1 ks
        have k1 := fun (W : World) (hb : Below w.heap.size w W) => ih (some ⟨b, off, none⟩) (L.take k) m c q W (by rw [lt (by omega)]; omega) (by omega) (ht.below hb) (by rw [lt (by omega)]; omega) hm hm1 (by rw [lt (by omega)]; omega)
        have k2 := fun (W : World) (hb : Below w.heap.size w W) => rroot_spec (L.length) (some ⟨b, off + k, none⟩) (L.drop k) (c - k) W (by omega) (by omega) (hd.below hb) (by omega) (by unfold maxLen at hm ⊢; omega)
        have hin := Mk.cons_left L m q (by omega) hmN (by rw [hk]; exact hik)
        have hml := Mk.cons_length _ (L.take k) m q rfl hm1 (by rw [lt (by omega)]; omega)
        have hmd := Mk.cdepth_le m (L.take k).length q
        rw [lt (by omega)] at k1 hml hmd
        rw [ld] at k2
        rw [hk] at hin
        have HN := Lib.hid hin
        generalize Mk.cons (L.take k) m q = M at k1 HN hml
        generalize Mk.root (L.drop k) = R at k2 HN
        obtain ⟨N, hN⟩ : ∃ N, L.length = N := ⟨_, rfl⟩
        rw [hN] at hl hc hk1 ks hmn hmN k2 ⊢
        have hM : M.length ≤ N + 1 := by omega
        have q2 : M.length + 1 ≤ maxLen := by unfold maxLen; omega
        have q1 : (M.length + 1) * 16 ≤ 140737488355328 := by omega
        have HX := Lib.hid (And.intro hN (And.intro hk (And.intro hR (And.intro ht hd))))
        clear hN hk hR ht hd lt ld ih hin hml hmd hM
        have i0 : ((m : Int) == (N : Int)) = false := by rw [beq_eq_false_iff_ne]; omega
        have i2 : (0 : Int) ≤ (k : Int) := by omega
        have i3 : (k : Int) ≤ (N : Int) := by omega
        have i4 : (k : Int) ≤ (c : Int) := by omega
        have i5 : (N : Int) ≤ (c : Int) := by omega
        have i6 : ¬ (k = c) := by omega
        have i7 : ((N - k : Nat) : Int) = (N : Int) - (k : Int) := by omega
        have i8 : ((c - k : Nat) : Int) = (c : Int) - (k : Int) := by omega
        have i9 : ¬ (c = k) := by omega
        have g1 : decide ((m : Int) ≤ (k : Int)) = true := by simp; omega
        unfold maxLen at hm
        go_enter Try.func38, Try.ntmps38
        go_wp2_with (first
          | ((with_reducible refine (ks _).mono ?_); rintro e w1 ⟨rfl, rfl⟩)
          | fail)
        have b0 : Below w.heap.size w w.drew := (Below.refl _ w).drew
        have s0 : St w.heap.size w w.drew [] := (St.nil w).drew
        go_region_held3 (fun w' => w.heap.size ≤ w'.heap.size)
          (first
            | exact Nat.le_refl _
            | exact h8.size
            | exact (h2.alloc0 _).size
            | exact h2.size
            | exact h1.size
            | fail)
          (first
            | (with_reducible refine (k1 _ b0).mono ?_
               rintro e w1 ⟨v1, rfl, t1⟩
               have h1 := s0.join t1)
            | (with_reducible refine (k2 _ h1.below).mono ?_
               rintro e w2 ⟨rfl, c2⟩
               have h2 := h1.under c2)
            | (refine stepA 22 (te := 9) (u := .string ⟨R.toArray⟩) h2 Try.underlying22 info_str rfl _ _ (by rfl) (by rfl) (by rfl) (by rfl) rfl q2 q1 ?_
               intro gg cap w5 h8)
            | fail)
        all_goals
          go_wp2
          go_ret
          refine ⟨_, rfl, ?_⟩
          rw [HN.out, strs_append, List.length_append]
          exact h8
      · rw [hk] at hk0 hk1 ks
        have k1 := fun (W : World) (hb : Below w.heap.size w W) => ih (some ⟨b, off + k, none⟩) (L.drop k) (m - k) (c - k) false W (by omega) (by omega) (hd.below hb) (by omega) (by unfold maxLen at hm ⊢; omega) (by omega) (by omega)
        have k2 := fun (W : World) (hb : Below w.heap.size w W) => rroot_spec (L.length) (some ⟨b, off, none⟩) (L.take k) c W (by rw [lt (by omega)]; omega) (by omega) (ht.below hb) (by rw [lt (by omega)]; omega) hm
        have hin := Mk.cons_right L m q (by omega) hmN (by rw [hk]; exact hik)
        have hml := Mk.cons_length _ (L.drop k) (m - k) false rfl (by omega) (by omega)
        have hmd := Mk.cdepth_le (m - k) (L.drop k).length false
        rw [ld] at k1 hml hmd
        rw [lt (by omega)] at k2
        rw [hk] at hin
        have HN := Lib.hid hin
        have j1 : (m : Int) - (k : Int) = ((m - k : Nat) : Int) := by omega
        generalize m - k = m' at k1 HN hml hmd j1
        generalize Mk.cons (L.drop k) m' false = M at k1 HN hml
        generalize Mk.root (L.take k) = R at k2 HN
        obtain ⟨N, hN⟩ : ∃ N, L.length = N := ⟨_, rfl⟩
        rw [hN] at hl hc hk1 ks hmn hmN hml hmd k1 ⊢
        have hM : M.length ≤ N + 1 := by omega
        have q2 : M.length + 1 ≤ maxLen := by unfold maxLen; omega
        have q1 : (M.length + 1) * 16 ≤ 140737488355328 := by omega
        have HX := Lib.hid (And.intro hN (And.intro hk (And.intro hR (And.intro ht hd))))
        clear hN hk hR ht hd lt ld ih hin hml hmd hM
        have i0 : ((m : Int) == (N : Int)) = false := by rw [beq_eq_false_iff_ne]; omega
        have i2 : (0 : Int) ≤ (k : Int) := by omega
        have i3 : (k : Int) ≤ (N : Int) := by omega
        have i4 : (k : Int) ≤ (c : Int) := by omega
        have i5 : (N : Int) ≤ (c : Int) := by omega
        have i6 : ¬ (k = c) := by omega
        have i7 : ((N - k : Nat) : Int) = (N : Int) - (k : Int) := by omega
        have i8 : ((c - k : Nat) : Int) = (c : Int) - (k : Int) := by omega
        have i9 : ¬ (c = k) := by omega
        have j2 : IntKind.i64.wrap (m' : Int) = (m' : Int) := by rw [IntWalk.i64_left, IntWalk.wrap64_in _ (by omega)]
        have g1 : decide ((m : Int) ≤ (k : Int)) = false := by simp; omega
        unfold maxLen at hm
        go_enter Try.func38, Try.ntmps38
        go_wp2_with (first
          | ((with_reducible refine (ks _).mono ?_); rintro e w1 ⟨rfl, rfl⟩)
          | fail)
        have b0 : Below w.heap.size w w.drew := (Below.refl _ w).drew
        have s0 : St w.heap.size w w.drew [] := (St.nil w).drew
        go_region_held3 (fun w' => w.heap.size ≤ w'.heap.size)
          (first
            | exact Nat.le_refl _
            | exact h8.size
            | exact (h2.alloc0 _).size
            | exact h2.size
            | exact h1.size
            | fail)
          (first
            | (with_reducible refine (k1 _ b0).mono ?_
               rintro e w1 ⟨v1, rfl, t1⟩
               have h1 := s0.join t1)
            | (with_reducible refine (k2 _ h1.below).mono ?_
               rintro e w2 ⟨rfl, c2⟩
               have h2 := h1.under c2)
            | (refine stepA 22 (te := 9) (u := .string ⟨R.toArray⟩) h2 Try.underlying22 info_str rfl _ _ (by rfl) (by rfl) (by rfl) (by rfl) rfl q2 q1 ?_
               intro gg cap w5 h8)
            | fail)
        all_goals
          go_wp2
          go_ret
          refine ⟨_, rfl, ?_⟩
          rw [HN.out, strs_append, List.length_append]
          exact h8
end Go.Proofs.Ytiklfjehhdbhfaa
