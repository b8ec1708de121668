/-
  Consistency proofs, in the program and in the reference. Conditions: at most 2^40 leaves.
-/
import Derived.Test.YtjjpdnpbhdcpbaaGreatQMkA
import Derived.Deep.QuietTactic
import Derived.BigQuiet
import Derived.StillTailTactics
namespace Go.Proofs.YtjjpdnpbhdcpbaaGreat
set_option linter.unusedVariables false
open Go.RowKit
theorem Mk.cdepth_le (m n : Nat) (b : Bool) : Mk.cdepth m n b ≤ n + 1 := by
 induction n using Nat.strongRecOn generalizing m b with
 | _ n ih =>
   by_cases hm : m = n
   ·subst hm; rw [Mk.cdepth_same]; cases b <;> simp
   ·by_cases h : n < 2
    ·rw [Mk.cdepth, if_neg hm, dif_pos h]; omega
    ·have h1 := Mk.split_lt (n := n) (by omega)
     have h2 := Mk.split_pos n
     by_cases hi : m ≤ Mk.split n
     ·rw [Mk.cdepth_left m n b (by omega) hm hi]; have := ih (Mk.split n) h1 m b; omega
     ·rw [Mk.cdepth_right m n b (by omega) hm hi]; have := ih (n - Mk.split n) (by omega) (m - Mk.split n) false; omega
set_option maxRecDepth 20000 in
set_option maxHeartbeats 4000000 in
theorem mcons_spec : ∀ (n : Nat) (A : Option Addr) (L : List Mk.Str) (m c : Nat) (q : Bool) (w : World), L.length ≤ n → n ≤ 1099511627776 → Rd w A (strs L) → L.length ≤ c → c ≤ maxLen → 1 ≤ m → m ≤ L.length →
 Calls Tryz.prog 140 #[.slice A L.length c, .int .i64 (m : Int), .bool q] w fun e w' => ∃ v, e = .returned v ∧ St w.heap.size w w' [ownR 9 1 v (Mk.cons L m q).length (strs (Mk.cons L m q))] := by
 intro n
 induction n with
 | zero => intro A L m c q w hl hn hR hc hm hm1 hmn; omega
 | succ n ih =>
   intro A L m c q w hl hn hR hc hm hm1 hmn
   by_cases hmN : m = L.length
   ·have k0 := mroot_spec (L.length) A L c w (Nat.le_refl _) (by omega) hR hc hm
    have hcw := Mk.cons_whole L q
    rw [← hmN] at hcw k0 ⊢
    rw [hcw]
    have g1 : ((m : Int) == (m : Int)) = true := by simp
    clear hmN hcw hl hR hc hmn ih
    generalize Mk.root L = R at k0 ⊢
    cases q with
    | true =>
      go_enter Tryz.func140, Tryz.ntmps140
      go_wp2
      go_ret
      exact ⟨_, rfl, (St.nil w).new_own (Below.refl _ w) (World.ownsRow_nil _ _ _ _)⟩
    | false =>
      go_enter Tryz.func140, Tryz.ntmps140
      go_wp2_with fail
      refine k0.mono ?_
      rintro e w1 ⟨rfl, b1⟩
      have h1 := ((St.nil w).under b1).new_own ((Below.refl _ w1).alloc (Nat.le_refl _) _) (World.ownsRow_lit (e := 9) (size := 1) w1 #[.string ⟨R.toArray⟩] 1 (Nat.le_refl _) (by decide) rfl)
      clear k0
      go_wp2
      go_ret
      exact ⟨_, rfl, h1⟩
   ·obtain ⟨b, off, hA, _⟩ := hR.str (k := 0) (by omega)
    subst hA
    have hk0 := Mk.split_pos L.length
    have hk1 := Mk.split_lt (n := L.length) (by omega)
    have ks := fun W => split_spec L.length (by omega) (by omega) W
    obtain ⟨k, hk⟩ : ∃ k, Mk.split L.length = k := ⟨_, rfl⟩
    have ht := rd_take hR k
    have hd := rd_drop hR k
    have lt : k ≤ L.length → (L.take k).length = k := fun h => by rw [List.length_take]; omega
    have ld : (L.drop k).length = L.length - k := List.length_drop
    by_cases hik : m ≤ k
    ·rw [hk] at hk0 hk1 ks
     have k1 := fun (W : World) (hb : Below w.heap.size w W) => ih (some ⟨b, off, none⟩) (L.take k) m c q W (by rw [lt (by omega)]; omega) (by omega) (ht.below hb) (by rw [lt (by omega)]; omega) hm hm1 (by rw [lt (by omega)]; omega)
     have k2 := fun (W : World) (hb : Below w.heap.size w W) => mroot_spec (L.length) (some ⟨b, off + k, none⟩) (L.drop k) (c - k) W (by omega) (by omega) (hd.below hb) (by omega) (by unfold maxLen at hm ⊢; omega)
     have hin := Mk.cons_left L m q (by omega) hmN (by rw [hk]; exact hik)
     have hml := Mk.cons_length _ (L.take k) m q rfl hm1 (by rw [lt (by omega)]; omega)
     have hmd := Mk.cdepth_le m (L.take k).length q
     rw [lt (by omega)] at k1 hml hmd
     rw [ld] at k2
     rw [hk] at hin
     have HN := Lib.hid hin
     generalize Mk.cons (L.take k) m q = M at k1 HN hml
     generalize Mk.root (L.drop k) = R at k2 HN
     obtain ⟨N, hN⟩ : ∃ N, L.length = N := ⟨_, rfl⟩
     rw [hN] at hl hc hk1 ks hmn hmN k2 ⊢
     have hM : M.length ≤ N + 1 := by omega
     have q2 : M.length + 1 ≤ maxLen := by unfold maxLen; omega
     have q1 : (M.length + 1) * 16 ≤ 140737488355328 := by omega
     have HX := Lib.hid (And.intro hN (And.intro hk (And.intro hR (And.intro ht hd))))
     clear hN hk hR ht hd lt ld ih hin hml hmd hM
     have i0 : ((m : Int) == (N : Int)) = false := by rw [beq_eq_false_iff_ne]; omega
     have i2 : (0 : Int) ≤ (k : Int) := by omega
     have i3 : (k : Int) ≤ (N : Int) := by omega
     have i4 : (k : Int) ≤ (c : Int) := by omega
     have i5 : (N : Int) ≤ (c : Int) := by omega
     have i6 : ¬ (k = c) := by omega
     have i7 : ((N - k : Nat) : Int) = (N : Int) - (k : Int) := by omega
     have i8 : ((c - k : Nat) : Int) = (c : Int) - (k : Int) := by omega
     have i9 : ¬ (c = k) := by omega
     have g1 : decide ((m : Int) ≤ (k : Int)) = true := by simp; omega
     unfold maxLen at hm
     go_enter Tryz.func140, Tryz.ntmps140
     go_wp2_with (first
      | ((with_reducible refine (ks _).mono ?_); rintro e w1 ⟨rfl, rfl⟩)
      | fail)
     have b0 : Below w.heap.size w w.drew := (Below.refl _ w).drew
     have s0 : St w.heap.size w w.drew [] := (St.nil w).drew
     go_region_held3 (fun w' => w.heap.size ≤ w'.heap.size)
      (first
        | exact Nat.le_refl _
        | exact h8.size
        | exact (h2.alloc0 _).size
        | exact h2.size
        | exact h1.size
        | fail)
      (first
        | (with_reducible refine (k1 _ b0).mono ?_
           rintro e w1 ⟨v1, rfl, t1⟩
           have h1 := s0.join t1)
        | (with_reducible refine (k2 _ h1.below).mono ?_
           rintro e w2 ⟨rfl, c2⟩
           have h2 := h1.under c2)
        | (refine stepA 27 (te := 9) (u := .string ⟨R.toArray⟩) h2 Tryz.underlying27 info_str rfl _ _ (by rfl) (by rfl) (by rfl) (by rfl) rfl q2 q1 ?_
           intro gg cap w5 h8)
        | fail)
     all_goals
      go_wp2
      go_ret
      refine ⟨_, rfl, ?_⟩
      rw [HN.out, strs_append, List.length_append]
      exact h8
    ·rw [hk] at hk0 hk1 ks
     have k1 := fun (W : World) (hb : Below w.heap.size w W) => ih (some ⟨b, off + k, none⟩) (L.drop k) (m - k) (c - k) false W (by omega) (by omega) (hd.below hb) (by omega) (by unfold maxLen at hm ⊢; omega) (by omega) (by omega)
     have k2 := fun (W : World) (hb : Below w.heap.size w W) => mroot_spec (L.length) (some ⟨b, off, none⟩) (L.take k) c W (by rw [lt (by omega)]; omega) (by omega) (ht.below hb) (by rw [lt (by omega)]; omega) hm
     have hin := Mk.cons_right L m q (by omega) hmN (by rw [hk]; exact hik)
     have hml := Mk.cons_length _ (L.drop k) (m - k) false rfl (by omega) (by omega)
     have hmd := Mk.cdepth_le (m - k) (L.drop k).length false
     rw [ld] at k1 hml hmd
     rw [lt (by omega)] at k2
     rw [hk] at hin
     have HN := Lib.hid hin
     have j1 : (m : Int) - (k : Int) = ((m - k : Nat) : Int) := by omega
     generalize m - k = m' at k1 HN hml hmd j1
     generalize Mk.cons (L.drop k) m' false = M at k1 HN hml
     generalize Mk.root (L.take k) = R at k2 HN
     obtain ⟨N, hN⟩ : ∃ N, L.length = N := ⟨_, rfl⟩
     rw [hN] at hl hc hk1 ks hmn hmN hml hmd k1 ⊢
     have hM : M.length ≤ N + 1 := by omega
     have q2 : M.length + 1 ≤ maxLen := by unfold maxLen; omega
     have q1 : (M.length + 1) * 16 ≤ 140737488355328 := by omega
     have HX := Lib.hid (And.intro hN (And.intro hk (And.intro hR (And.intro ht hd))))
     clear hN hk hR ht hd lt ld ih hin hml hmd hM
     have i0 : ((m : Int) == (N : Int)) = false := by rw [beq_eq_false_iff_ne]; omega
     have i2 : (0 : Int) ≤ (k : Int) := by omega
     have i3 : (k : Int) ≤ (N : Int) := by omega
     have i4 : (k : Int) ≤ (c : Int) := by omega
     have i5 : (N : Int) ≤ (c : Int) := by omega
     have i6 : ¬ (k = c) := by omega
     have i7 : ((N - k : Nat) : Int) = (N : Int) - (k : Int) := by omega
     have i8 : ((c - k : Nat) : Int) = (c : Int) - (k : Int) := by omega
     have i9 : ¬ (c = k) := by omega
     have j2 : IntKind.i64.wrap (m' : Int) = (m' : Int) := by rw [IntWalk.i64_left, IntWalk.wrap64_in _ (by omega)]
     have g1 : decide ((m : Int) ≤ (k : Int)) = false := by simp; omega
     unfold maxLen at hm
     go_enter Tryz.func140, Tryz.ntmps140
     go_wp2_with (first
      | ((with_reducible refine (ks _).mono ?_); rintro e w1 ⟨rfl, rfl⟩)
      | fail)
     have b0 : Below w.heap.size w w.drew := (Below.refl _ w).drew
     have s0 : St w.heap.size w w.drew [] := (St.nil w).drew
     go_region_held3 (fun w' => w.heap.size ≤ w'.heap.size)
      (first
        | exact Nat.le_refl _
        | exact h8.size
        | exact (h2.alloc0 _).size
        | exact h2.size
        | exact h1.size
        | fail)
      (first
        | (with_reducible refine (k1 _ b0).mono ?_
           rintro e w1 ⟨v1, rfl, t1⟩
           have h1 := s0.join t1)
        | (with_reducible refine (k2 _ h1.below).mono ?_
           rintro e w2 ⟨rfl, c2⟩
           have h2 := h1.under c2)
        | (refine stepA 27 (te := 9) (u := .string ⟨R.toArray⟩) h2 Tryz.underlying27 info_str rfl _ _ (by rfl) (by rfl) (by rfl) (by rfl) rfl q2 q1 ?_
           intro gg cap w5 h8)
        | fail)
     all_goals
      go_wp2
      go_ret
      refine ⟨_, rfl, ?_⟩
      rw [HN.out, strs_append, List.length_append]
      exact h8
end Go.Proofs.YtjjpdnpbhdcpbaaGreat
namespace Go.Proofs.YtjjpdnpbhdcpbaaGreat
set_option linter.unusedVariables false
open Go.RowKit
def vld (L : List Mk.Str) : Bool := L.all fun s => decide (s.length = 32)
theorem undig_spec (s : Mk.Str) (w : World) : Calls Tryz.prog 166 #[.string ⟨s.toArray⟩] w fun e w' => e = .returned (.bool (!decide (s.length = 32))) ∧ w = w' := by
 have k := digest_spec s
 go_enter Tryz.func166, Tryz.ntmps166
 cases hd : decide (s.length = 32) with
 | true =>
   rw [hd] at k
   clear hd
   go_wp2_with fail
   refine (k _).mono ?_
   rintro e w' ⟨rfl, rfl⟩
   go_wp2
   go_ret
   exact ⟨rfl, rfl⟩
 | false =>
   rw [hd] at k
   clear hd
   go_wp2_with fail
   refine (k _).mono ?_
   rintro e w' ⟨rfl, rfl⟩
   go_wp2
   go_ret
   exact ⟨rfl, rfl⟩
theorem vld_take (L : List Mk.Str) (k : Nat) (h : k < L.length) : vld (L.take (k + 1)) = (vld (L.take k) && decide (L[k].length = 32)) := by
 unfold vld
 rw [List.take_succ_eq_append_getElem h, List.all_append]
 simp
theorem vld_bad (L : List Mk.Str) (k : Nat) (h : k < L.length) (hb : ¬ L[k].length = 32) : vld L = false := by
 unfold vld
 rw [List.all_eq_false]
 exact ⟨L[k], List.getElem_mem h, by simpa using hb⟩
theorem vld_iff (L : List Mk.Str) : vld L = true ↔ Mk.AllD L := by
 unfold vld Mk.AllD
 simp
def IxP (q : Bool) (w : World) (e : Ending) (w' : World) : Prop := ∃ j : Int, e = .returned (.int .i64 j) ∧ w = w' ∧ (decide (j ≥ 0) = !q)
set_option maxRecDepth 20000 in
theorem index_func (f : Nat) (he : ∀ args w, (callFunc f args).run Tryz.prog w = .ok (.enter f args) w) (kf : ∀ (s : Mk.Str) (w : World), Calls Tryz.prog f #[.string ⟨s.toArray⟩] w fun e w' => e = .returned (.bool (!decide (s.length = 32))) ∧ w = w') (A : Option Addr) (L : List Mk.Str) (c : Nat) (w : World) (hR : Rd w A (strs L)) (hl : L.length ≤ 9223372036854775807) :
 Calls Tryz.prog 156 #[.slice A L.length c, .func (.func f) #[] #[]] w (IxP (vld L) w) := by
 have HR := Lib.hid hR
 clear hR
 go_enter Tryz.func156, Tryz.ntmps156
 go_wp2
 go_loop [8] (fun i => ∃ k : Nat, k ≤ L.length ∧ i = .int .i64 k ∧ vld (L.take k) = true) (fun i => L.length - (intOf i).toNat)
 case atStart => exact ⟨0, Nat.zero_le _, rfl, rfl⟩
 case round =>
  obtain ⟨k, hk, rfl, hv⟩ := hrel
  by_cases hlt : k < L.length
  ·obtain ⟨b, off, hA, hcc⟩ := HR.out.str hlt
   subst hA
   have hk1 : (k : Int) < (L.length : Int) := by omega
   have hk0 : (0 : Int) ≤ (k : Int) := by omega
   have k1 := kf L[k]
   have hst := vld_take L k hlt
   rw [hv] at hst
   by_cases h32 : L[k].length = 32
   ·rw [decide_eq_true h32] at k1 hst
    have HS := Lib.hid hst
    generalize L[k] = x at hcc k1
    clear hst hv h32
    go_wp2_with fail
    refine (k1 _).mono ?_
    rintro e w' ⟨rfl, rfl⟩
    go_wp2
    go_round
    case rel => exact ⟨k + 1, by omega, by go_num, HS.out⟩
    case measure => simp [intOf]; omega
   ·have hb := vld_bad L k hlt h32
    rw [decide_eq_false h32] at k1
    have HS := Lib.hid hb
    generalize L[k] = x at hcc k1
    clear hst hv h32 hb
    go_wp2_with fail
    refine (k1 _).mono ?_
    rintro e w' ⟨rfl, rfl⟩
    go_wp2
    go_ret
    refine ⟨(k : Int), rfl, rfl, ?_⟩
    rw [HS.out]
    simp
  ·obtain rfl : k = L.length := by omega
   rw [List.take_length] at hv
   have HS := Lib.hid hv
   clear hv
   have hge : decide ((L.length : Int) < (L.length : Int)) = false := by simp
   go_wp2
   go_ret
   refine ⟨-1, rfl, rfl, ?_⟩
   rw [HS.out]
   rfl
theorem contains_func (f : Nat) (he : ∀ args w, (callFunc f args).run Tryz.prog w = .ok (.enter f args) w) (kf : ∀ (s : Mk.Str) (w : World), Calls Tryz.prog f #[.string ⟨s.toArray⟩] w fun e w' => e = .returned (.bool (!decide (s.length = 32))) ∧ w = w') (A : Option Addr) (L : List Mk.Str) (c : Nat) (w : World) (hR : Rd w A (strs L)) (hl : L.length ≤ 9223372036854775807) :
 Calls Tryz.prog 109 #[.slice A L.length c, .func (.func f) #[] #[]] w fun e w' => e = .returned (.bool (!vld L)) ∧ w = w' := by
 have k := index_func f he kf A L c w hR hl
 generalize vld L = q at k ⊢
 go_enter Tryz.func109, Tryz.ntmps109
 go_wp2_with fail
 refine k.mono ?_
 rintro e w' ⟨j, rfl, rfl, hj⟩
 have HJ := Lib.hid hj
 clear hj k
 go_wp2
 go_ret
 exact ⟨by rw [← HJ.out]; rfl, rfl⟩
theorem valid_spec (A : Option Addr) (L : List Mk.Str) (c : Nat) (w : World) (hR : Rd w A (strs L)) (hl : L.length ≤ 9223372036854775807) :
 Calls Tryz.prog 135 #[.slice A L.length c] w fun e w' => e = .returned (.bool (decide (L.length ≤ 4096) && vld L)) ∧ w = w' := by
 by_cases h : L.length ≤ 4096
 ·have g1 : decide ((L.length : Int) ≤ 4096) = true := by simp; omega
  have k := contains_func 166 (enters_of Tryz.func166 (by kernel_rfl) rfl) undig_spec A L c w hR hl
  rw [decide_eq_true h, Bool.true_and]
  generalize vld L = q at k ⊢
  go_enter Tryz.func135, Tryz.ntmps135
  go_wp2_with fail
  refine k.mono ?_
  rintro e w' ⟨rfl, rfl⟩
  cases q
  ·go_wp2
   go_ret
   exact ⟨rfl, rfl⟩
  ·go_wp2
   go_ret
   exact ⟨rfl, rfl⟩
 ·have g1 : decide ((L.length : Int) ≤ 4096) = false := by simp; omega
  rw [decide_eq_false h, Bool.false_and]
  go_enter Tryz.func135, Tryz.ntmps135
  go_wp2
  go_ret
  exact ⟨rfl, rfl⟩
set_option maxRecDepth 20000 in
theorem digests_spec (A : Option Addr) (L : List Mk.Str) (c : Nat) (w : World) (hR : Rd w A (strs L)) (hl : L.length ≤ 9223372036854775807) :
 Calls Tryz.prog 115 #[.slice A L.length c] w fun e w' => e = .returned (.bool (vld L)) ∧ w = w' := by
 have HR := Lib.hid hR
 clear hR
 go_enter Tryz.func115, Tryz.ntmps115
 go_wp2
 go_loop [3] (fun i => ∃ k : Nat, k ≤ L.length ∧ i = .int .i64 k ∧ vld (L.take k) = true) (fun i => L.length - (intOf i).toNat)
 case atStart => exact ⟨0, Nat.zero_le _, rfl, rfl⟩
 case round =>
  obtain ⟨k, hk, rfl, hv⟩ := hrel
  by_cases hlt : k < L.length
  ·obtain ⟨b, off, hA, hcc⟩ := HR.out.str hlt
   subst hA
   have hk1 : (k : Int) < (L.length : Int) := by omega
   have hk0 : (0 : Int) ≤ (k : Int) := by omega
   have k1 := rdigest_spec L[k]
   have hst := vld_take L k hlt
   rw [hv] at hst
   by_cases h32 : L[k].length = 32
   ·rw [decide_eq_true h32] at k1 hst
    have HS := Lib.hid hst
    generalize L[k] = x at hcc k1
    clear hst hv h32
    go_wp2_with fail
    refine (k1 _).mono ?_
    rintro e w' ⟨rfl, rfl⟩
    go_wp2
    go_round
    case rel => exact ⟨k + 1, by omega, by go_num, HS.out⟩
    case measure => simp [intOf]; omega
   ·have hb := vld_bad L k hlt h32
    rw [decide_eq_false h32] at k1
    have HS := Lib.hid hb
    generalize L[k] = x at hcc k1
    clear hst hv h32 hb
    go_wp2_with fail
    refine (k1 _).mono ?_
    rintro e w' ⟨rfl, rfl⟩
    go_wp2
    go_ret
    refine ⟨?_, rfl⟩
    rw [HS.out]
    rfl
  ·obtain rfl : k = L.length := by omega
   rw [List.take_length] at hv
   have HS := Lib.hid hv
   clear hv
   have hge : decide ((L.length : Int) < (L.length : Int)) = false := by simp
   go_wp2
   go_ret
   refine ⟨?_, rfl⟩
   rw [HS.out]
   rfl
theorem rvalid_spec (A : Option Addr) (L : List Mk.Str) (c : Nat) (w : World) (hR : Rd w A (strs L)) (hl : L.length ≤ 9223372036854775807) :
 Calls Tryz.prog 89 #[.slice A L.length c] w fun e w' => e = .returned (.bool (decide (L.length ≤ 4096) && vld L)) ∧ w = w' := by
 by_cases h : L.length ≤ 4096
 ·have g1 : decide ((L.length : Int) ≤ 4096) = true := by simp; omega
  have k := digests_spec A L c w hR hl
  rw [decide_eq_true h, Bool.true_and]
  generalize vld L = q at k ⊢
  go_enter Tryz.func89, Tryz.ntmps89
  go_wp2_with fail
  refine k.mono ?_
  rintro e w' ⟨rfl, rfl⟩
  go_wp2
  go_ret
  exact ⟨rfl, rfl⟩
 ·have g1 : decide ((L.length : Int) ≤ 4096) = false := by simp; omega
  rw [decide_eq_false h, Bool.false_and]
  go_enter Tryz.func89, Tryz.ntmps89
  go_wp2
  go_ret
  exact ⟨rfl, rfl⟩
end Go.Proofs.YtjjpdnpbhdcpbaaGreat
namespace Go.Proofs.YtjjpdnpbhdcpbaaGreat
set_option linter.unusedVariables false
open Go.RowKit
def mRoot (L : List Mk.Str) : Mk.Str := if (decide (L.length ≤ 4096) && vld L) = true then Mk.root L else []
def mInc (L : List Mk.Str) (i : Int) : List Mk.Str × Int := if (decide (L.length ≤ 4096) && vld L) = true then (if i < 0 ∨ (L.length : Int) ≤ i then ([], 2) else (Mk.incl L i.toNat, 0)) else ([], 1)
def mCon (L : List Mk.Str) (i : Int) : List Mk.Str × Int := if (decide (L.length ≤ 4096) && vld L) = true then (if i < 0 ∨ (L.length : Int) < i then ([], 2) else if i = 0 then ([], 0) else (Mk.cons L i.toNat true, 0)) else ([], 1)
def PrP (x : List Mk.Str × Int) (w : World) (e : Ending) (w' : World) : Prop := ∃ v, e = .returned (.tuple #[v, .int .i64 x.2]) ∧ St w.heap.size w w' [ownR 9 1 v x.1.length (strs x.1)]
set_option maxRecDepth 20000 in
set_option maxHeartbeats 2000000 in
theorem root_mk (A : Option Addr) (L : List Mk.Str) (c : Nat) (w : World) (hR : Rd w A (strs L)) (hl : L.length ≤ 1099511627776) (hc : L.length ≤ c) (hm : c ≤ maxLen) :
 Calls Tryz.prog 87 #[.slice A L.length c] w fun e w' => e = .returned (.string ⟨(mRoot L).toArray⟩) ∧ Below w.heap.size w w' := by
 have k1 := valid_spec A L c w hR (by omega)
 have k2 := mroot_spec L.length A L c w (Nat.le_refl _) (by omega) hR hc hm
 unfold mRoot
 cases hq : (decide (L.length ≤ 4096) && vld L) with
 | true =>
   rw [hq] at k1
   clear hq hR
   rw [if_pos rfl]
   generalize Mk.root L = R at k2 ⊢
   go_enter Tryz.func87, Tryz.ntmps87
   go_wp2_with fail
   refine k1.mono ?_
   rintro e w' ⟨rfl, rfl⟩
   go_wp2_with fail
   refine k2.mono ?_
   rintro e w' ⟨rfl, b⟩
   go_wp2
   go_ret
   exact ⟨rfl, b⟩
 | false =>
   rw [hq] at k1
   clear hq hR k2
   rw [if_neg (by simp)]
   go_enter Tryz.func87, Tryz.ntmps87
   go_wp2_with fail
   refine k1.mono ?_
   rintro e w' ⟨rfl, rfl⟩
   go_wp2
   go_ret
   exact ⟨rfl, Below.refl _ _⟩
set_option maxRecDepth 20000 in
set_option maxHeartbeats 2000000 in
theorem inc_mk (A : Option Addr) (L : List Mk.Str) (c : Nat) (i : Int) (w : World) (hR : Rd w A (strs L)) (hl : L.length ≤ 1099511627776) (hc : L.length ≤ c) (hm : c ≤ maxLen) :
 Calls Tryz.prog 99 #[.slice A L.length c, .int .i64 i] w (PrP (mInc L i) w) := by
 have k1 := valid_spec A L c w hR (by omega)
 have z0 : St w.heap.size w w [ownR 9 1 (.slice none 0 0) 0 (strs [])] := (St.nil w).new_own (Below.refl _ w) (World.ownsRow_nil _ _ _ _)
 unfold mInc
 cases hq : (decide (L.length ≤ 4096) && vld L) with
 | true =>
   rw [hq] at k1
   clear hq
   rw [if_pos rfl]
   by_cases h0 : i < 0
   ·rw [if_pos (.inl h0)]
    have g0 : decide (i < 0) = true := by simp; exact h0
    clear hR
    go_enter Tryz.func99, Tryz.ntmps99
    go_wp2_with fail
    refine k1.mono ?_
    rintro e w' ⟨rfl, rfl⟩
    go_wp2
    go_ret2
    exact ⟨_, rfl, z0⟩
   have g0 : decide (i < 0) = false := by simp; omega
   by_cases h1 : (L.length : Int) ≤ i
   ·rw [if_pos (.inr h1)]
    have g1 : decide (i ≥ (L.length : Int)) = true := by simp; omega
    clear hR
    go_enter Tryz.func99, Tryz.ntmps99
    go_wp2_with fail
    refine k1.mono ?_
    rintro e w' ⟨rfl, rfl⟩
    go_wp2
    go_ret2
    exact ⟨_, rfl, z0⟩
   ·rw [if_neg (by omega)]
    have g1 : decide (i ≥ (L.length : Int)) = false := by simp; omega
    obtain ⟨m, rfl⟩ : ∃ m : Nat, i = m := ⟨i.toNat, by omega⟩
    have k2 := mincl_spec L.length A L m c w (Nat.le_refl _) (by omega) hR hc hm (by omega)
    rw [Int.toNat_natCast]
    clear hR
    generalize Mk.incl L m = M at k2 ⊢
    go_enter Tryz.func99, Tryz.ntmps99
    go_wp2_with fail
    refine k1.mono ?_
    rintro e w' ⟨rfl, rfl⟩
    go_wp2_with fail
    refine k2.mono ?_
    rintro e w' ⟨v, rfl, h⟩
    go_wp2
    go_ret2
    exact ⟨_, rfl, h⟩
 | false =>
   rw [hq] at k1
   clear hq hR
   rw [if_neg (by simp)]
   go_enter Tryz.func99, Tryz.ntmps99
   go_wp2_with fail
   refine k1.mono ?_
   rintro e w' ⟨rfl, rfl⟩
   go_wp2
   go_ret2
   exact ⟨_, rfl, z0⟩
set_option maxRecDepth 20000 in
set_option maxHeartbeats 2000000 in
theorem con_mk (A : Option Addr) (L : List Mk.Str) (c : Nat) (i : Int) (w : World) (hR : Rd w A (strs L)) (hl : L.length ≤ 1099511627776) (hc : L.length ≤ c) (hm : c ≤ maxLen) :
 Calls Tryz.prog 88 #[.slice A L.length c, .int .i64 i] w (PrP (mCon L i) w) := by
 have k1 := valid_spec A L c w hR (by omega)
 have z0 : St w.heap.size w w [ownR 9 1 (.slice none 0 0) 0 (strs [])] := (St.nil w).new_own (Below.refl _ w) (World.ownsRow_nil _ _ _ _)
 unfold mCon
 cases hq : (decide (L.length ≤ 4096) && vld L) with
 | true =>
   rw [hq] at k1
   clear hq
   rw [if_pos rfl]
   by_cases h0 : i < 0
   ·rw [if_pos (.inl h0)]
    have g0 : decide (i < 0) = true := by simp; exact h0
    clear hR
    go_enter Tryz.func88, Tryz.ntmps88
    go_wp2_with fail
    refine k1.mono ?_
    rintro e w' ⟨rfl, rfl⟩
    go_wp2
    go_ret2
    exact ⟨_, rfl, z0⟩
   have g0 : decide (i < 0) = false := by simp; omega
   by_cases h1 : (L.length : Int) < i
   ·rw [if_pos (.inr h1)]
    have g1 : decide (i > (L.length : Int)) = true := by simp; omega
    clear hR
    go_enter Tryz.func88, Tryz.ntmps88
    go_wp2_with fail
    refine k1.mono ?_
    rintro e w' ⟨rfl, rfl⟩
    go_wp2
    go_ret2
    exact ⟨_, rfl, z0⟩
   rw [if_neg (by omega)]
   have g1 : decide (i > (L.length : Int)) = false := by simp; omega
   by_cases h2 : i = 0
   ·rw [if_pos h2]
    have g2 : (i == 0) = true := by simp [h2]
    subst h2
    clear hR
    go_enter Tryz.func88, Tryz.ntmps88
    go_wp2_with fail
    refine k1.mono ?_
    rintro e w' ⟨rfl, rfl⟩
    go_wp2
    go_ret2
    exact ⟨_, rfl, z0⟩
   ·rw [if_neg h2]
    have g2 : (i == 0) = false := by rw [beq_eq_false_iff_ne]; exact h2
    obtain ⟨m, rfl⟩ : ∃ m : Nat, i = m := ⟨i.toNat, by omega⟩
    have k2 := mcons_spec L.length A L m c true w (Nat.le_refl _) (by omega) hR hc hm (by omega) (by omega)
    rw [Int.toNat_natCast]
    clear hR
    generalize Mk.cons L m true = M at k2 ⊢
    go_enter Tryz.func88, Tryz.ntmps88
    go_wp2_with fail
    refine k1.mono ?_
    rintro e w' ⟨rfl, rfl⟩
    go_wp2_with fail
    refine k2.mono ?_
    rintro e w' ⟨v, rfl, h⟩
    go_wp2
    go_ret2
    exact ⟨_, rfl, h⟩
 | false =>
   rw [hq] at k1
   clear hq hR
   rw [if_neg (by simp)]
   go_enter Tryz.func88, Tryz.ntmps88
   go_wp2_with fail
   refine k1.mono ?_
   rintro e w' ⟨rfl, rfl⟩
   go_wp2
   go_ret2
   exact ⟨_, rfl, z0⟩
set_option maxRecDepth 20000 in
set_option maxHeartbeats 2000000 in
theorem root_rk (A : Option Addr) (L : List Mk.Str) (c : Nat) (w : World) (hR : Rd w A (strs L)) (hl : L.length ≤ 1099511627776) (hc : L.length ≤ c) (hm : c ≤ maxLen) :
 Calls Tryz.prog 46 #[.slice A L.length c] w fun e w' => e = .returned (.string ⟨(mRoot L).toArray⟩) ∧ Below w.heap.size w w' := by
 have k1 := rvalid_spec A L c w hR (by omega)
 have k2 := rroot_spec L.length A L c w (Nat.le_refl _) (by omega) hR hc hm
 unfold mRoot
 cases hq : (decide (L.length ≤ 4096) && vld L) with
 | true =>
   rw [hq] at k1
   clear hq hR
   rw [if_pos rfl]
   generalize Mk.root L = R at k2 ⊢
   go_enter Tryz.func46, Tryz.ntmps46
   go_wp2_with fail
   refine k1.mono ?_
   rintro e w' ⟨rfl, rfl⟩
   go_wp2_with fail
   refine k2.mono ?_
   rintro e w' ⟨rfl, b⟩
   go_wp2
   go_ret
   exact ⟨rfl, b⟩
 | false =>
   rw [hq] at k1
   clear hq hR k2
   rw [if_neg (by simp)]
   go_enter Tryz.func46, Tryz.ntmps46
   go_wp2_with fail
   refine k1.mono ?_
   rintro e w' ⟨rfl, rfl⟩
   go_wp2
   go_ret
   exact ⟨rfl, Below.refl _ _⟩
end Go.Proofs.YtjjpdnpbhdcpbaaGreat
namespace Go.Proofs.YtjjpdnpbhdcpbaaGreat
set_option linter.unusedVariables false
open Go.RowKit
def GvP (x : Mk.Str × Bool) (w : World) (e : Ending) (w' : World) : Prop := e = .returned (.tuple #[.string ⟨x.1.toArray⟩, .bool x.2]) ∧ Below w.heap.size w w'
theorem isEmpty_len (P : List Mk.Str) : P.isEmpty = ((P.length : Int) == 0) := by cases P <;> simp; omega
set_option maxRecDepth 20000 in
set_option maxHeartbeats 4000000 in
theorem given_spec : ∀ (n : Nat) (A : Option Addr) (P : List Mk.Str) (x : Mk.Str) (i c : Nat) (w : World), 1 ≤ n → n ≤ 1099511627776 → i < n → Rd w A (strs P) → P.length ≤ c → c ≤ maxLen →
 Calls Tryz.prog 158 #[.string ⟨x.toArray⟩, .int .i64 (i : Int), .int .i64 (n : Int), .slice A P.length c] w (GvP (Mk.given x i n P) w) := by
 intro n
 induction n using Nat.strongRecOn with
 | _ n ih =>
   intro A P x i c w h1 hn hi hR hc hm
   unfold maxLen at hm
   by_cases h2 : n < 2
   ·obtain rfl : n = 1 := by omega
    rw [Mk.given_one x i 1 P h2, isEmpty_len]
    clear hR ih
    go_enter Tryz.func158, Tryz.ntmps158
    go_wp2
    go_ret2
    exact ⟨rfl, Below.refl _ _⟩
   have g1 : ((n : Int) == 1) = false := by rw [beq_eq_false_iff_ne]; omega
   rcases Mk.snoc_cases P with rfl | ⟨Q, q, rfl⟩
   ·rw [Mk.given_nil x i n (by omega)]
    clear hR ih
    go_enter Tryz.func158, Tryz.ntmps158
    go_wp2
    go_ret2
    exact ⟨rfl, Below.refl _ _⟩
   ·have hlen : (Q ++ [q]).length = Q.length + 1 := by simp
    obtain ⟨b, off, hA, hcc0⟩ := hR.str (k := Q.length) (by rw [hlen]; omega)
    subst hA
    have hq : (Q ++ [q])[Q.length]'(by rw [hlen]; omega) = q := by simp
    have hcc : w.cell? ⟨b, off + Q.length, none⟩ = some (.string ⟨q.toArray⟩) := by
     rw [hcc0]; congr 3; exact congrArg List.toArray hq
    clear hcc0
    have hRQ : Rd w (some ⟨b, off, none⟩) (strs Q) := by
     have := rd_take hR Q.length
     rwa [List.take_left] at this
    rw [hlen] at hc ⊢
    have ks := fun W => (split_spec n (by omega) hn W).mono (fun e w' h => And.intro h.1 h.2.symm)
    have hk0 := Mk.split_pos n
    have hk1 := Mk.split_lt (n := n) (by omega)
    have hgl := Mk.given_left x i n Q q (by omega)
    have hgr := Mk.given_right x i n Q q (by omega)
    obtain ⟨k, hk⟩ : ∃ k, Mk.split n = k := ⟨_, rfl⟩
    rw [hk] at ks hk0 hk1 hgl hgr
    obtain ⟨N, hN⟩ : ∃ N, Q.length = N := ⟨_, rfl⟩
    have kL : i < k → ∀ W, Below w.heap.size w W → Calls Tryz.prog 158 #[.string ⟨x.toArray⟩, .int .i64 (i : Int), .int .i64 (k : Int), .slice (some ⟨b, off, none⟩) N c] W (GvP (Mk.given x i k Q) W) := fun hik W hb => by
     have := ih k hk1 (some ⟨b, off, none⟩) Q x i c W (by omega) (by omega) hik (hRQ.below hb) (by omega) (by unfold maxLen; omega)
     rwa [hN] at this
    have kR : ¬ i < k → ∀ W, Below w.heap.size w W → Calls Tryz.prog 158 #[.string ⟨x.toArray⟩, .int .i64 ((i - k : Nat) : Int), .int .i64 ((n - k : Nat) : Int), .slice (some ⟨b, off, none⟩) N c] W (GvP (Mk.given x (i - k) (n - k) Q) W) := fun hik W hb => by
     have := ih (n - k) (by omega) (some ⟨b, off, none⟩) Q x (i - k) c W (by omega) (by omega) (by omega) (hRQ.below hb) (by omega) (by unfold maxLen; omega)
     rwa [hN] at this
    rw [hN] at hcc hc ⊢
    have HX := Lib.hid (And.intro hN (And.intro hk (And.intro hR hRQ)))
    clear hR hRQ hN hk ih hq hlen
    have p0 : (((N + 1 : Nat) : Int) == 0) = false := by rw [beq_eq_false_iff_ne]; omega
    have p00 : ((N : Int) + 1 == 0) = false := by rw [beq_eq_false_iff_ne]; omega
    have p1 : IntKind.i64.wrap (N : Int) = (N : Int) := by rw [IntWalk.i64_left, IntWalk.wrap64_in _ (by omega)]
    have p2 : (0 : Int) ≤ (N : Int) := by omega
    have p3 : (N : Int) < (N : Int) + 1 := by omega
    have p4 : (N : Int) ≤ (c : Int) := by omega
    have p5 : (N : Int) + 1 ≤ (c : Int) := by omega
    by_cases hik : i < k
    ·have g2 : decide ((i : Int) < (k : Int)) = true := by simp; omega
     have hg := hgl hik
     have k2 := kL hik
     clear hgl hgr kL kR
     rw [hg]
     generalize Mk.given x i k Q = G at k2 ⊢
     obtain ⟨R, ok⟩ := G
     have k3 := fun W => node_spec R q W
     show Calls _ _ _ _ (GvP (Mk.node R q, ok) w)
     generalize Mk.node R q = R2 at k3 ⊢
     go_enter Tryz.func158, Tryz.ntmps158
     go_wp2_with fail
     go_quiet (first | (go_at_call 167; with_reducible exact Calls.quiet_of_same (ks _)))
     have b0 : Below w.heap.size w (w.drewN nq) := ((Mod.refl (fun _ => False) w).drewN nq).below (Nat.le_refl _) (fun _ _ h => h)
     go_wp2_with fail
     refine (k2 _ b0).mono ?_
     rintro e w1 ⟨rfl, b1⟩
     go_wp2_with fail
     refine (k3 _).mono ?_
     rintro e w2 ⟨rfl, b2⟩
     have b3 := b0.trans (b1.mono b0.size)
     go_wp2
     go_ret2
     exact ⟨rfl, b3.trans (b2.mono b3.size)⟩
    ·have g2 : decide ((i : Int) < (k : Int)) = false := by simp; omega
     have hg := hgr hik
     have k2 := kR hik
     clear hgl hgr kL kR
     rw [hg]
     generalize Mk.given x (i - k) (n - k) Q = G at k2 ⊢
     obtain ⟨R, ok⟩ := G
     have k3 := fun W => node_spec q R W
     show Calls _ _ _ _ (GvP (Mk.node q R, ok) w)
     generalize Mk.node q R = R2 at k3 ⊢
     have j1 : (i : Int) - (k : Int) = ((i - k : Nat) : Int) := by omega
     have j2 : (n : Int) - (k : Int) = ((n - k : Nat) : Int) := by omega
     generalize i - k = i' at k2 j1
     generalize n - k = n' at k2 j2
     go_enter Tryz.func158, Tryz.ntmps158
     go_wp2_with fail
     go_quiet (first | (go_at_call 167; with_reducible exact Calls.quiet_of_same (ks _)))
     have b0 : Below w.heap.size w (w.drewN nq) := ((Mod.refl (fun _ => False) w).drewN nq).below (Nat.le_refl _) (fun _ _ h => h)
     go_wp2_with fail
     refine (k2 _ b0).mono ?_
     rintro e w1 ⟨rfl, b1⟩
     go_wp2_with fail
     refine (k3 _).mono ?_
     rintro e w2 ⟨rfl, b2⟩
     have b3 := b0.trans (b1.mono b0.size)
     go_wp2
     go_ret2
     exact ⟨rfl, b3.trans (b2.mono b3.size)⟩
end Go.Proofs.YtjjpdnpbhdcpbaaGreat
namespace Go.Proofs.YtjjpdnpbhdcpbaaGreat
set_option linter.unusedVariables false
open Go.RowKit
def incBad (x : Mk.Str) (i n : Int) (P : List Mk.Str) (r : Mk.Str) : Bool := !decide (x.length = 32) || !decide (r.length = 32) || !(decide (P.length ≤ 4096) && vld P) || decide (n < 1) || decide (n > 4096) || decide (i < 0) || decide (i ≥ n)
def incB (x : Mk.Str) (i n : Int) (P : List Mk.Str) (r : Mk.Str) : Bool := !incBad x i n P r && ((Mk.given x i.toNat n.toNat P).2 && (Mk.given x i.toNat n.toNat P).1 == r)
theorem incB_bad {x : Mk.Str} {i n : Int} {P : List Mk.Str} {r : Mk.Str} (h : incBad x i n P r = true) : incB x i n P r = false := by unfold incB; rw [h]; rfl
set_option maxRecDepth 20000 in
set_option maxHeartbeats 4000000 in
theorem included_spec (x : Mk.Str) (i n : Int) (A : Option Addr) (P : List Mk.Str) (c : Nat) (r : Mk.Str) (w : World) (hR : Rd w A (strs P)) (hc : P.length ≤ c) (hm : c ≤ maxLen) :
 Calls Tryz.prog 112 #[.string ⟨x.toArray⟩, .int .i64 i, .int .i64 n, .slice A P.length c, .string ⟨r.toArray⟩] w fun e w' => e = .returned (.bool (incB x i n P r)) ∧ Below w.heap.size w w' := by
 have k1 := digest_spec x
 have k2 := digest_spec r
 have k3 := fun W hb => valid_spec A P c W (hR.below hb) (by unfold maxLen at hm; omega)
 cases d1 : (decide (x.length = 32)) with
 | false =>
   have HB := Lib.hid (incB_bad (i := i) (n := n) (P := P) (x := x) (r := r) (by unfold incBad; simp [d1]))
   simp only [d1] at k1
   clear d1 hR
   go_enter Tryz.func112, Tryz.ntmps112
   go_wp2_with (first
    | ((with_reducible refine (k1 _).mono ?_); rintro e w1 ⟨rfl, rfl⟩)
    | ((with_reducible refine (k2 _).mono ?_); rintro e w1 ⟨rfl, rfl⟩)
    | ((with_reducible refine (k3 _ (Below.refl _ _)).mono ?_); rintro e w1 ⟨rfl, rfl⟩)
    | fail)
   go_ret
   exact ⟨by rw [HB.out]; rfl, Below.refl _ _⟩
 | true =>
   cases d2 : (decide (r.length = 32)) with
   | false =>
     have HB := Lib.hid (incB_bad (i := i) (n := n) (P := P) (x := x) (r := r) (by unfold incBad; simp [d2, d1]))
     simp only [d2, d1] at k1 k2
     clear d2 d1 hR
     go_enter Tryz.func112, Tryz.ntmps112
     go_wp2_with (first
      | ((with_reducible refine (k1 _).mono ?_); rintro e w1 ⟨rfl, rfl⟩)
      | ((with_reducible refine (k2 _).mono ?_); rintro e w1 ⟨rfl, rfl⟩)
      | ((with_reducible refine (k3 _ (Below.refl _ _)).mono ?_); rintro e w1 ⟨rfl, rfl⟩)
      | fail)
     go_ret
     exact ⟨by rw [HB.out]; rfl, Below.refl _ _⟩
   | true =>
     cases d3 : (decide (P.length ≤ 4096) && vld P) with
     | false =>
       have HB := Lib.hid (incB_bad (i := i) (n := n) (P := P) (x := x) (r := r) (by unfold incBad; simp [d3, d1, d2]))
       simp only [d3, d1, d2] at k1 k2 k3
       clear d3 d1 d2 hR
       go_enter Tryz.func112, Tryz.ntmps112
       go_wp2_with (first
        | ((with_reducible refine (k1 _).mono ?_); rintro e w1 ⟨rfl, rfl⟩)
        | ((with_reducible refine (k2 _).mono ?_); rintro e w1 ⟨rfl, rfl⟩)
        | ((with_reducible refine (k3 _ (Below.refl _ _)).mono ?_); rintro e w1 ⟨rfl, rfl⟩)
        | fail)
       go_ret
       exact ⟨by rw [HB.out]; rfl, Below.refl _ _⟩
     | true =>
       by_cases c0 : n < 1
       ·have g0 : decide (n < 1) = true := decide_eq_true c0
        have HB := Lib.hid (incB_bad (i := i) (n := n) (P := P) (x := x) (r := r) (by unfold incBad; simp [c0]))
        simp only [d1, d2, d3] at k1 k2 k3
        clear d1 d2 d3 hR c0
        go_enter Tryz.func112, Tryz.ntmps112
        go_wp2_with (first
         | ((with_reducible refine (k1 _).mono ?_); rintro e w1 ⟨rfl, rfl⟩)
         | ((with_reducible refine (k2 _).mono ?_); rintro e w1 ⟨rfl, rfl⟩)
         | ((with_reducible refine (k3 _ (Below.refl _ _)).mono ?_); rintro e w1 ⟨rfl, rfl⟩)
         | fail)
        go_ret
        exact ⟨by rw [HB.out]; rfl, Below.refl _ _⟩
       have g0 : decide (n < 1) = false := decide_eq_false c0
       by_cases c1 : n > 4096
       ·have g1 : decide (n > 4096) = true := decide_eq_true c1
        have HB := Lib.hid (incB_bad (i := i) (n := n) (P := P) (x := x) (r := r) (by unfold incBad; simp [c1]))
        simp only [d1, d2, d3] at k1 k2 k3
        clear d1 d2 d3 hR c1 c0
        go_enter Tryz.func112, Tryz.ntmps112
        go_wp2_with (first
         | ((with_reducible refine (k1 _).mono ?_); rintro e w1 ⟨rfl, rfl⟩)
         | ((with_reducible refine (k2 _).mono ?_); rintro e w1 ⟨rfl, rfl⟩)
         | ((with_reducible refine (k3 _ (Below.refl _ _)).mono ?_); rintro e w1 ⟨rfl, rfl⟩)
         | fail)
        go_ret
        exact ⟨by rw [HB.out]; rfl, Below.refl _ _⟩
       have g1 : decide (n > 4096) = false := decide_eq_false c1
       by_cases c2 : i < 0
       ·have g2 : decide (i < 0) = true := decide_eq_true c2
        have HB := Lib.hid (incB_bad (i := i) (n := n) (P := P) (x := x) (r := r) (by unfold incBad; simp [c2]))
        simp only [d1, d2, d3] at k1 k2 k3
        clear d1 d2 d3 hR c2 c0 c1
        go_enter Tryz.func112, Tryz.ntmps112
        go_wp2_with (first
         | ((with_reducible refine (k1 _).mono ?_); rintro e w1 ⟨rfl, rfl⟩)
         | ((with_reducible refine (k2 _).mono ?_); rintro e w1 ⟨rfl, rfl⟩)
         | ((with_reducible refine (k3 _ (Below.refl _ _)).mono ?_); rintro e w1 ⟨rfl, rfl⟩)
         | fail)
        go_ret
        exact ⟨by rw [HB.out]; rfl, Below.refl _ _⟩
       have g2 : decide (i < 0) = false := decide_eq_false c2
       by_cases c3 : i ≥ n
       ·have g3 : decide (i ≥ n) = true := decide_eq_true c3
        have HB := Lib.hid (incB_bad (i := i) (n := n) (P := P) (x := x) (r := r) (by unfold incBad; simp [c3]))
        simp only [d1, d2, d3] at k1 k2 k3
        clear d1 d2 d3 hR c3 c0 c1 c2
        go_enter Tryz.func112, Tryz.ntmps112
        go_wp2_with (first
         | ((with_reducible refine (k1 _).mono ?_); rintro e w1 ⟨rfl, rfl⟩)
         | ((with_reducible refine (k2 _).mono ?_); rintro e w1 ⟨rfl, rfl⟩)
         | ((with_reducible refine (k3 _ (Below.refl _ _)).mono ?_); rintro e w1 ⟨rfl, rfl⟩)
         | fail)
        go_ret
        exact ⟨by rw [HB.out]; rfl, Below.refl _ _⟩
       have g3 : decide (i ≥ n) = false := decide_eq_false c3
       obtain ⟨a, rfl⟩ : ∃ a : Nat, i = a := ⟨i.toNat, by omega⟩
       obtain ⟨b, rfl⟩ : ∃ b : Nat, n = b := ⟨n.toNat, by omega⟩
       have hib : incB x a b P r = ((Mk.given x a b P).2 && (Mk.given x a b P).1 == r) := by
        have hz : incBad x a b P r = false := by unfold incBad; simp [d1, d2, d3]; omega
        unfold incB
        rw [hz]
        rfl
       have k4 := fun W hb => given_spec b A P x a c W (by omega) (by omega) (by omega) (hR.below hb) hc hm
       rw [hib]
       generalize Mk.given x a b P = G at k4 ⊢
       obtain ⟨R, ok⟩ := G
       simp only [d1, d2, d3] at k1 k2 k3
       have q0 : (1 : Int) ≤ (b : Int) := by omega
       have q1 : (b : Int) ≤ 4096 := by omega
       have q2 : (a : Int) < (b : Int) := by omega
       have q3 : decide ((a : Int) < 0) = false := by rw [decide_eq_false_iff_not]; omega
       have q4 : decide ((b : Int) ≤ (a : Int)) = false := by rw [decide_eq_false_iff_not]; omega
       have q5 : decide ((b : Int) < 1) = false := by rw [decide_eq_false_iff_not]; omega
       have q6 : decide ((4096 : Int) < (b : Int)) = false := by rw [decide_eq_false_iff_not]; omega
       clear d1 d2 d3 hR c0 c1 c2 c3 hib
       go_enter Tryz.func112, Tryz.ntmps112
       go_wp2_with (first
        | ((with_reducible refine (k1 _).mono ?_); rintro e w1 ⟨rfl, rfl⟩)
        | ((with_reducible refine (k2 _).mono ?_); rintro e w1 ⟨rfl, rfl⟩)
        | ((with_reducible refine (k3 _ (Below.refl _ _)).mono ?_); rintro e w1 ⟨rfl, rfl⟩)
        | fail)
       refine (k4 _ (Below.refl _ _)).mono ?_
       rintro e w4 ⟨rfl, b4⟩
       cases ok
       ·go_wp2
        go_ret
        exact ⟨rfl, b4⟩
       ·go_wp2
        go_ret
        exact ⟨rfl, b4⟩
end Go.Proofs.YtjjpdnpbhdcpbaaGreat
namespace Go.Proofs.YtjjpdnpbhdcpbaaGreat
set_option linter.unusedVariables false
open Go.RowKit
def RpP (x : (Mk.Str × Mk.Str) × Bool) (w : World) (e : Ending) (w' : World) : Prop := e = .returned (.tuple #[.agg #[.string ⟨x.1.1.toArray⟩, .string ⟨x.1.2.toArray⟩], .bool x.2]) ∧ Below w.heap.size w w'
set_option maxRecDepth 20000 in
set_option maxHeartbeats 4000000 in
theorem read_spec : ∀ (n : Nat) (A : Option Addr) (P : List Mk.Str) (x : Mk.Str) (m c : Nat) (w : World), 1 ≤ m → m ≤ n → n ≤ 1099511627776 → Rd w A (strs P) → P.length ≤ c → c ≤ maxLen →
 Calls Tryz.prog 136 #[.int .i64 (m : Int), .int .i64 (n : Int), .string ⟨x.toArray⟩, .slice A P.length c] w (RpP (Mk.rd m n x P) w) := by
 intro n
 induction n using Nat.strongRecOn with
 | _ n ih =>
   intro A P x m c w h1 hmn hn hR hc hm
   unfold maxLen at hm
   by_cases hmN : m = n
   ·subst hmN
    rw [Mk.rd_same]
    by_cases hx : x = []
    ·subst hx
     rw [if_neg (by simp)]
     by_cases hP : P.length = 1
     ·rw [if_neg (by omega)]
      obtain ⟨q, rfl⟩ := List.length_eq_one_iff.1 hP
      obtain ⟨b, off, hA, hcc⟩ := hR.str (k := 0) (by simp)
      subst hA
      rw [Nat.add_zero] at hcc
      have hcc : w.cell? ⟨b, off, none⟩ = some (.string ⟨q.toArray⟩) := hcc
      have hw2 : (w.alloc (.cells #[.string ⟨#[]⟩, .string ⟨#[]⟩] 157)).cell? ⟨b, off, none⟩ = some (.string ⟨q.toArray⟩) := below_cell ((Below.refl _ w).alloc (Nat.le_refl _) _) hcc
      show Calls _ _ _ _ (RpP ((q, q), true) w)
      have e1 : ([q] : List Mk.Str).length = 1 := rfl
      rw [e1] at hc ⊢
      clear hR ih e1 hP
      have hs := (St.nil w).alloc 157 #[.string ⟨#[]⟩, .string ⟨#[]⟩]
      go_enter Tryz.func136, Tryz.ntmps136
      go_wp2_with fail
      generalize hgg : w.heap.size = g at hs ⊢
      have hs : St w.heap.size w (w.alloc (.cells #[.string ⟨#[]⟩, .string ⟨#[]⟩] 157)) [cellsR g 157 #[.string ⟨#[]⟩, .string ⟨#[]⟩]] := by rw [hgg]; exact hs
      have HGG := Lib.hid hgg
      clear hgg
      generalize w.alloc (.cells #[.string ⟨#[]⟩, .string ⟨#[]⟩] 157) = W at hs hw2 ⊢
      have u0 := hs.blk.cell 0
      have u1 := hs.blk.cell 1
      have u2 := hs.blk.frozen 0
      have u3 := hs.blk.frozen 1
      have u4 := hs.blk.lt
      go_still_tail 7, (by kernel_rfl)
      have s5 := ((hs.drew).set_ 0 (.string ⟨q.toArray⟩)).set_ 1 (.string ⟨q.toArray⟩)
      have y0 : (W.setCell ⟨g, 0, none⟩ (.string ⟨q.toArray⟩)).cell? ⟨g, 0, none⟩ = some (.string ⟨q.toArray⟩) := (hs.set_ 0 (.string ⟨q.toArray⟩)).blk.cell 0
      have y1 : ((W.setCell ⟨g, 0, none⟩ (.string ⟨q.toArray⟩)).setCell ⟨g, 1, none⟩ (.string ⟨q.toArray⟩)).cell? ⟨g, 1, none⟩ = some (.string ⟨q.toArray⟩) := ((hs.set_ 0 (.string ⟨q.toArray⟩)).set_ 1 (.string ⟨q.toArray⟩)).blk.cell 1
      change wpList _ _ _ _ _ W.drew
      go_wp2
      exact bodyPost_ret (v := .tuple #[.agg #[.string ⟨q.toArray⟩, .string ⟨q.toArray⟩], .bool true]) (by simp [results, Tryz.results136, go_sem, y0, y1]) rfl ⟨rfl, s5.below⟩
     ·rw [if_pos hP]
      have g0 : ((P.length : Int) != 1) = true := by simp; omega
      clear hR ih
      go_enter Tryz.func136, Tryz.ntmps136
      go_wp2
      exact bodyPost_ret (v := .tuple #[.agg #[.string ⟨#[]⟩, .string ⟨#[]⟩], .bool false]) (by simp [results, Tryz.results136, go_sem]) rfl ⟨rfl, (Below.refl _ w).alloc (Nat.le_refl _) _⟩
    ·rw [if_pos hx, isEmpty_len]
     have g0 : (x == []) = false := by simpa using hx
     clear hR ih
     go_enter Tryz.func136, Tryz.ntmps136
     go_wp2
     exact bodyPost_ret (v := .tuple #[.agg #[.string ⟨x.toArray⟩, .string ⟨x.toArray⟩], .bool ((P.length : Int) == 0)]) (by simp [results, Tryz.results136, go_sem]) rfl ⟨rfl, (Below.refl _ w).alloc (Nat.le_refl _) _⟩
   have g1 : ((m : Int) == (n : Int)) = false := by rw [beq_eq_false_iff_ne]; omega
   rcases Mk.snoc_cases P with rfl | ⟨Q, q, rfl⟩
   ·rw [Mk.rd_nil m n x (by omega) hmN]
    clear hR ih
    go_enter Tryz.func136, Tryz.ntmps136
    go_wp2
    exact bodyPost_ret (v := .tuple #[.agg #[.string ⟨#[]⟩, .string ⟨#[]⟩], .bool false]) (by simp [results, Tryz.results136, go_sem]) rfl ⟨rfl, (Below.refl _ w).alloc (Nat.le_refl _) _⟩
   ·have hlen : (Q ++ [q]).length = Q.length + 1 := by simp
    obtain ⟨b, off, hA, hcc0⟩ := hR.str (k := Q.length) (by rw [hlen]; omega)
    subst hA
    have hq : (Q ++ [q])[Q.length]'(by rw [hlen]; omega) = q := by simp
    have hcc : w.cell? ⟨b, off + Q.length, none⟩ = some (.string ⟨q.toArray⟩) := by
     rw [hcc0]; congr 3; exact congrArg List.toArray hq
    clear hcc0
    have hRQ : Rd w (some ⟨b, off, none⟩) (strs Q) := by
     have := rd_take hR Q.length
     rwa [List.take_left] at this
    rw [hlen] at hc ⊢
    have ks := fun W => (split_spec n (by omega) hn W).mono (fun e w' h => And.intro h.1 h.2.symm)
    have hk0 := Mk.split_pos n
    have hk1 := Mk.split_lt (n := n) (by omega)
    have hgl := Mk.rd_left m n x Q q (by omega) hmN
    have hgr := Mk.rd_right m n x Q q (by omega) hmN
    obtain ⟨k, hk⟩ : ∃ k, Mk.split n = k := ⟨_, rfl⟩
    rw [hk] at ks hk0 hk1 hgl hgr
    obtain ⟨N, hN⟩ : ∃ N, Q.length = N := ⟨_, rfl⟩
    have kL : m ≤ k → ∀ W, Below w.heap.size w W → Calls Tryz.prog 136 #[.int .i64 (m : Int), .int .i64 (k : Int), .string ⟨x.toArray⟩, .slice (some ⟨b, off, none⟩) N c] W (RpP (Mk.rd m k x Q) W) := fun hik W hb => by
     have := ih k hk1 (some ⟨b, off, none⟩) Q x m c W h1 hik (by omega) (hRQ.below hb) (by omega) (by unfold maxLen; omega)
     rwa [hN] at this
    have kR : ¬ m ≤ k → ∀ W, Below w.heap.size w W → Calls Tryz.prog 136 #[.int .i64 ((m - k : Nat) : Int), .int .i64 ((n - k : Nat) : Int), .string .empty, .slice (some ⟨b, off, none⟩) N c] W (RpP (Mk.rd (m - k) (n - k) [] Q) W) := fun hik W hb => by
     have := ih (n - k) (by omega) (some ⟨b, off, none⟩) Q [] (m - k) c W (by omega) (by omega) (by omega) (hRQ.below hb) (by omega) (by unfold maxLen; omega)
     rwa [hN] at this
    rw [hN] at hcc hc ⊢
    have HX := Lib.hid (And.intro hN (And.intro hk (And.intro hR hRQ)))
    clear hR hRQ hN hk ih hq hlen
    have p0 : (((N + 1 : Nat) : Int) == 0) = false := by rw [beq_eq_false_iff_ne]; omega
    have p00 : ((N : Int) + 1 == 0) = false := by rw [beq_eq_false_iff_ne]; omega
    have p1 : IntKind.i64.wrap (N : Int) = (N : Int) := by rw [IntWalk.i64_left, IntWalk.wrap64_in _ (by omega)]
    have p2 : (0 : Int) ≤ (N : Int) := by omega
    have p3 : (N : Int) < (N : Int) + 1 := by omega
    have p4 : (N : Int) ≤ (c : Int) := by omega
    have p5 : (N : Int) + 1 ≤ (c : Int) := by omega
    by_cases hik : m ≤ k
    ·have g2 : decide ((m : Int) ≤ (k : Int)) = true := by simp; omega
     have hg := hgl hik
     have k2 := kL hik
     clear hgl hgr kL kR
     rw [hg]
     generalize Mk.rd m k x Q = G at k2 ⊢
     obtain ⟨⟨O, W9⟩, ok⟩ := G
     have k3 := fun W => node_spec W9 q W
     show Calls _ _ _ _ (RpP ((O, Mk.node W9 q), ok) w)
     generalize Mk.node W9 q = R2 at k3 ⊢
     go_enter Tryz.func136, Tryz.ntmps136
     have s0 := (St.nil w).alloc 157 #[.string ⟨#[]⟩, .string ⟨#[]⟩]
     have ccA : (w.alloc (.cells #[.string ⟨#[]⟩, .string ⟨#[]⟩] 157)).cell? ⟨b, off + N, none⟩ = some (.string ⟨q.toArray⟩) := below_cell ((Below.refl _ w).alloc (Nat.le_refl _) _) hcc
     go_wp2_with fail
     generalize hgg : w.heap.size = g at s0 ⊢
     have s0 : St w.heap.size w (w.alloc (.cells #[.string ⟨#[]⟩, .string ⟨#[]⟩] 157)) [cellsR g 157 #[.string ⟨#[]⟩, .string ⟨#[]⟩]] := by rw [hgg]; exact s0
     have HGG := Lib.hid hgg
     clear hgg
     generalize w.alloc (.cells #[.string ⟨#[]⟩, .string ⟨#[]⟩] 157) = W at s0 ccA ⊢
     go_quiet (first | (go_at_call 167; with_reducible exact Calls.quiet_of_same (ks _)))
     have s1 := s0.drewN nq
     clear s0
     generalize W.drewN nq = W1 at s1 ⊢
     go_wp2_with fail
     refine (k2 _ s1.below).mono ?_
     rintro e w1 ⟨rfl, b1⟩
     have s2 := s1.under b1
     clear s1
     have s3 := s2.alloc 157 #[.string ⟨O.toArray⟩, .string ⟨W9.toArray⟩]
     go_wp2_with fail
     generalize w1.heap.size = h at s3 ⊢
     generalize w1.alloc (.cells #[.string ⟨O.toArray⟩, .string ⟨W9.toArray⟩] 157) = W2 at s3 ⊢
     have hneq : h ≠ g := by
      obtain ⟨F, G, f1, f2, _, _, f3, _⟩ := s3.open2
      obtain ⟨_, rfl⟩ := f1
      obtain ⟨_, rfl⟩ := f2
      exact fun e => f3 h rfl e
     have e0 : W2.drew.cell? ⟨h, 0, none⟩ = some (.string ⟨O.toArray⟩) := s3.blk.cell 0
     have e1 : W2.drew.cell? ⟨h, 1, none⟩ = some (.string ⟨W9.toArray⟩) := s3.blk.cell 1
     have s4 := s3.drew
     have t4 := s4.swap
     have u0 := t4.blk.cell 0
     have u1 := t4.blk.cell 1
     have u2 := t4.blk.frozen 0
     have u3 := t4.blk.frozen 1
     have u4 := t4.blk.lt
     clear s3 s2
     go_region_held3 (fun w' => w'.cell? ⟨h, 0, none⟩ = some (.string ⟨O.toArray⟩) ∧ w'.cell? ⟨h, 1, none⟩ = some (.string ⟨W9.toArray⟩))
      (first
        | exact ⟨e0, e1⟩
        | exact ⟨below_cell b3 e0, below_cell b3 e1⟩
        | exact ⟨z0, z1⟩
        | fail)
      (first
        | (with_reducible refine (k3 _).mono ?_
           rintro e w3 ⟨rfl, b3⟩
           have v0 : w3.cell? ⟨g, 0, none⟩ = some (.string ⟨#[]⟩) := below_cell b3 u0
           have v1 : w3.cell? ⟨g, 1, none⟩ = some (.string ⟨#[]⟩) := below_cell b3 u1
           have v2 : w3.frozen? ⟨g, 0, none⟩ = false := (b3.frozen (p := ⟨g, 0, none⟩) u4).trans u2
           have v3 : w3.frozen? ⟨g, 1, none⟩ = false := (b3.frozen (p := ⟨g, 1, none⟩) u4).trans u3
           have v4 : g < w3.heap.size := Nat.lt_of_lt_of_le u4 b3.size
           have z0 : ((w3.setCell ⟨g, 0, none⟩ (.string ⟨O.toArray⟩)).setCell ⟨g, 1, none⟩ (.string ⟨R2.toArray⟩)).cell? ⟨h, 0, none⟩ = some (.string ⟨O.toArray⟩) := by
            rw [World.cell?_setCell_far _ _ _ _ (Ne.symm hneq), World.cell?_setCell_far _ _ _ _ (Ne.symm hneq)]
            exact below_cell b3 e0
           have z1 : ((w3.setCell ⟨g, 0, none⟩ (.string ⟨O.toArray⟩)).setCell ⟨g, 1, none⟩ (.string ⟨R2.toArray⟩)).cell? ⟨h, 1, none⟩ = some (.string ⟨W9.toArray⟩) := by
            rw [World.cell?_setCell_far _ _ _ _ (Ne.symm hneq), World.cell?_setCell_far _ _ _ _ (Ne.symm hneq)]
            exact below_cell b3 e1)
        | fail)
     all_goals
      have s5 := ((t4.under b3).set_ 0 (.string ⟨O.toArray⟩)).set_ 1 (.string ⟨R2.toArray⟩)
      have y0 := s5.blk.cell 0
      have y1 := s5.blk.cell 1
      simp at y0 y1
      go_wp2
      exact bodyPost_ret (v := .tuple #[.agg #[.string ⟨O.toArray⟩, .string ⟨R2.toArray⟩], .bool ok]) (by simp [results, Tryz.results136, go_sem, y0, y1]) rfl ⟨rfl, s5.below⟩
    ·have g2 : decide ((m : Int) ≤ (k : Int)) = false := by simp; omega
     have hg := hgr hik
     have k2 := kR hik
     clear hgl hgr kL kR
     rw [hg]
     generalize Mk.rd (m - k) (n - k) [] Q = G at k2 ⊢
     obtain ⟨⟨O, W9⟩, ok⟩ := G
     have k3 := fun W => node_spec q O W
     have k4 := fun W => node_spec q W9 W
     show Calls _ _ _ _ (RpP ((Mk.node q O, Mk.node q W9), ok) w)
     generalize Mk.node q O = R1 at k3 ⊢
     generalize Mk.node q W9 = R2 at k4 ⊢
     have j1 : (m : Int) - (k : Int) = ((m - k : Nat) : Int) := by omega
     have j2 : (n : Int) - (k : Int) = ((n - k : Nat) : Int) := by omega
     generalize m - k = m' at k2 j1
     generalize n - k = n' at k2 j2
     go_enter Tryz.func136, Tryz.ntmps136
     have s0 := (St.nil w).alloc 157 #[.string ⟨#[]⟩, .string ⟨#[]⟩]
     have ccA : (w.alloc (.cells #[.string ⟨#[]⟩, .string ⟨#[]⟩] 157)).cell? ⟨b, off + N, none⟩ = some (.string ⟨q.toArray⟩) := below_cell ((Below.refl _ w).alloc (Nat.le_refl _) _) hcc
     go_wp2_with fail
     generalize hgg : w.heap.size = g at s0 ⊢
     have s0 : St w.heap.size w (w.alloc (.cells #[.string ⟨#[]⟩, .string ⟨#[]⟩] 157)) [cellsR g 157 #[.string ⟨#[]⟩, .string ⟨#[]⟩]] := by rw [hgg]; exact s0
     have HGG := Lib.hid hgg
     clear hgg
     generalize w.alloc (.cells #[.string ⟨#[]⟩, .string ⟨#[]⟩] 157) = W at s0 ccA ⊢
     go_quiet (first | (go_at_call 167; with_reducible exact Calls.quiet_of_same (ks _)))
     have s1 := s0.drewN nq
     clear s0
     generalize W.drewN nq = W1 at s1 ⊢
     go_wp2_with fail
     refine (k2 _ s1.below).mono ?_
     rintro e w1 ⟨rfl, b1⟩
     have s2 := s1.under b1
     clear s1
     have s3 := s2.alloc 157 #[.string ⟨O.toArray⟩, .string ⟨W9.toArray⟩]
     go_wp2_with fail
     generalize w1.heap.size = h at s3 ⊢
     generalize w1.alloc (.cells #[.string ⟨O.toArray⟩, .string ⟨W9.toArray⟩] 157) = W2 at s3 ⊢
     have hneq : h ≠ g := by
      obtain ⟨F, G, f1, f2, _, _, f3, _⟩ := s3.open2
      obtain ⟨_, rfl⟩ := f1
      obtain ⟨_, rfl⟩ := f2
      exact fun e => f3 h rfl e
     have e0 : W2.drew.cell? ⟨h, 0, none⟩ = some (.string ⟨O.toArray⟩) := s3.blk.cell 0
     have e1 : W2.drew.cell? ⟨h, 1, none⟩ = some (.string ⟨W9.toArray⟩) := s3.blk.cell 1
     have s4 := s3.drew
     have t4 := s4.swap
     have u0 := t4.blk.cell 0
     have u1 := t4.blk.cell 1
     have u2 := t4.blk.frozen 0
     have u3 := t4.blk.frozen 1
     have u4 := t4.blk.lt
     clear s3 s2
     go_region_held3 (fun w' => w'.cell? ⟨h, 0, none⟩ = some (.string ⟨O.toArray⟩) ∧ w'.cell? ⟨h, 1, none⟩ = some (.string ⟨W9.toArray⟩))
      (first
        | exact ⟨e0, e1⟩
        | exact ⟨z0, z1⟩
        | exact ⟨below_cell b4 x0, below_cell b4 x1⟩
        | exact ⟨x0, x1⟩
        | fail)
      (first
        | (with_reducible refine (k3 _).mono ?_
           rintro e w3 ⟨rfl, b3⟩
           have x0 : w3.cell? ⟨h, 0, none⟩ = some (.string ⟨O.toArray⟩) := below_cell b3 e0
           have x1 : w3.cell? ⟨h, 1, none⟩ = some (.string ⟨W9.toArray⟩) := below_cell b3 e1)
        | (with_reducible refine (k4 _).mono ?_
           rintro e w4 ⟨rfl, b4⟩
           have v0 : w4.cell? ⟨g, 0, none⟩ = some (.string ⟨#[]⟩) := below_cell b4 (below_cell b3 u0)
           have v1 : w4.cell? ⟨g, 1, none⟩ = some (.string ⟨#[]⟩) := below_cell b4 (below_cell b3 u1)
           have v4' : g < w3.heap.size := Nat.lt_of_lt_of_le u4 b3.size
           have v2 : w4.frozen? ⟨g, 0, none⟩ = false := (b4.frozen (p := ⟨g, 0, none⟩) v4').trans ((b3.frozen (p := ⟨g, 0, none⟩) u4).trans u2)
           have v3 : w4.frozen? ⟨g, 1, none⟩ = false := (b4.frozen (p := ⟨g, 1, none⟩) v4').trans ((b3.frozen (p := ⟨g, 1, none⟩) u4).trans u3)
           have v4 : g < w4.heap.size := Nat.lt_of_lt_of_le v4' b4.size
           have z0 : ((w4.setCell ⟨g, 0, none⟩ (.string ⟨R1.toArray⟩)).setCell ⟨g, 1, none⟩ (.string ⟨R2.toArray⟩)).cell? ⟨h, 0, none⟩ = some (.string ⟨O.toArray⟩) := by
            rw [World.cell?_setCell_far _ _ _ _ (Ne.symm hneq), World.cell?_setCell_far _ _ _ _ (Ne.symm hneq)]
            exact below_cell b4 x0
           have z1 : ((w4.setCell ⟨g, 0, none⟩ (.string ⟨R1.toArray⟩)).setCell ⟨g, 1, none⟩ (.string ⟨R2.toArray⟩)).cell? ⟨h, 1, none⟩ = some (.string ⟨W9.toArray⟩) := by
            rw [World.cell?_setCell_far _ _ _ _ (Ne.symm hneq), World.cell?_setCell_far _ _ _ _ (Ne.symm hneq)]
            exact below_cell b4 x1)
        | fail)
     all_goals
      have s5 := (((t4.under b3).under b4).set_ 0 (.string ⟨R1.toArray⟩)).set_ 1 (.string ⟨R2.toArray⟩)
      have y0 := s5.blk.cell 0
      have y1 := s5.blk.cell 1
      simp at y0 y1
      go_wp2
      exact bodyPost_ret (v := .tuple #[.agg #[.string ⟨R1.toArray⟩, .string ⟨R2.toArray⟩], .bool ok]) (by simp [results, Tryz.results136, go_sem, y0, y1]) rfl ⟨rfl, s5.below⟩
end Go.Proofs.YtjjpdnpbhdcpbaaGreat
namespace Go.Proofs.YtjjpdnpbhdcpbaaGreat
set_option linter.unusedVariables false
open Go.RowKit
def extBad (m n : Int) (o r : Mk.Str) (P : List Mk.Str) : Bool := !decide (o.length = 32) || !decide (r.length = 32) || !(decide (P.length ≤ 4096) && vld P) || decide (m < 0) || decide (m > n) || decide (n > 4096)
def extB (m n : Int) (o r : Mk.Str) (P : List Mk.Str) : Bool := !extBad m n o r P && (if m = 0 then P.isEmpty && (o == Sh.sha []) && (decide (n > 0) || (r == Sh.sha [])) else (Mk.rd m.toNat n.toNat o P).2 && ((Mk.rd m.toNat n.toNat o P).1.1 == o && (Mk.rd m.toNat n.toNat o P).1.2 == r))
theorem extB_bad {m n : Int} {o r : Mk.Str} {P : List Mk.Str} (h : extBad m n o r P = true) : extB m n o r P = false := by unfold extB; rw [h]; rfl
set_option maxRecDepth 20000 in
set_option maxHeartbeats 4000000 in
theorem extends_spec (m n : Int) (x r : Mk.Str) (A : Option Addr) (P : List Mk.Str) (c : Nat) (w : World) (hR : Rd w A (strs P)) (hc : P.length ≤ c) (hm : c ≤ maxLen) :
 Calls Tryz.prog 84 #[.int .i64 m, .int .i64 n, .string ⟨x.toArray⟩, .string ⟨r.toArray⟩, .slice A P.length c] w fun e w' => e = .returned (.bool (extB m n x r P)) ∧ Below w.heap.size w w' := by
 have k1 := digest_spec x
 have k2 := digest_spec r
 have k3 := fun W hb => valid_spec A P c W (hR.below hb) (by unfold maxLen at hm; omega)
 have k5 := fun W => sum_below [] (by decide) W
 cases d1 : (decide (x.length = 32)) with
 | false =>
   have HB := Lib.hid (extB_bad (m := m) (n := n) (P := P) (o := x) (r := r) (by unfold extBad; simp [d1]))
   simp only [d1] at k1
   clear d1 hR k5
   go_enter Tryz.func84, Tryz.ntmps84
   go_wp2_with (first
    | ((with_reducible refine (k1 _).mono ?_); rintro e w1 ⟨rfl, rfl⟩)
    | ((with_reducible refine (k2 _).mono ?_); rintro e w1 ⟨rfl, rfl⟩)
    | ((with_reducible refine (k3 _ (Below.refl _ _)).mono ?_); rintro e w1 ⟨rfl, rfl⟩)
    | fail)
   go_ret
   exact ⟨by rw [HB.out]; rfl, Below.refl _ _⟩
 | true =>
   cases d2 : (decide (r.length = 32)) with
   | false =>
     have HB := Lib.hid (extB_bad (m := m) (n := n) (P := P) (o := x) (r := r) (by unfold extBad; simp [d2, d1]))
     simp only [d2, d1] at k1 k2
     clear d2 d1 hR k5
     go_enter Tryz.func84, Tryz.ntmps84
     go_wp2_with (first
      | ((with_reducible refine (k1 _).mono ?_); rintro e w1 ⟨rfl, rfl⟩)
      | ((with_reducible refine (k2 _).mono ?_); rintro e w1 ⟨rfl, rfl⟩)
      | ((with_reducible refine (k3 _ (Below.refl _ _)).mono ?_); rintro e w1 ⟨rfl, rfl⟩)
      | fail)
     go_ret
     exact ⟨by rw [HB.out]; rfl, Below.refl _ _⟩
   | true =>
     cases d3 : (decide (P.length ≤ 4096) && vld P) with
     | false =>
       have HB := Lib.hid (extB_bad (m := m) (n := n) (P := P) (o := x) (r := r) (by unfold extBad; simp [d3, d1, d2]))
       simp only [d3, d1, d2] at k1 k2 k3
       clear d3 d1 d2 hR k5
       go_enter Tryz.func84, Tryz.ntmps84
       go_wp2_with (first
        | ((with_reducible refine (k1 _).mono ?_); rintro e w1 ⟨rfl, rfl⟩)
        | ((with_reducible refine (k2 _).mono ?_); rintro e w1 ⟨rfl, rfl⟩)
        | ((with_reducible refine (k3 _ (Below.refl _ _)).mono ?_); rintro e w1 ⟨rfl, rfl⟩)
        | fail)
       go_ret
       exact ⟨by rw [HB.out]; rfl, Below.refl _ _⟩
     | true =>
       by_cases c0 : m < 0
       ·have g0 : decide (m < 0) = true := decide_eq_true c0
        have HB := Lib.hid (extB_bad (m := m) (n := n) (P := P) (o := x) (r := r) (by unfold extBad; simp [c0]))
        simp only [d1, d2, d3] at k1 k2 k3
        clear d1 d2 d3 hR k5 c0
        go_enter Tryz.func84, Tryz.ntmps84
        go_wp2_with (first
         | ((with_reducible refine (k1 _).mono ?_); rintro e w1 ⟨rfl, rfl⟩)
         | ((with_reducible refine (k2 _).mono ?_); rintro e w1 ⟨rfl, rfl⟩)
         | ((with_reducible refine (k3 _ (Below.refl _ _)).mono ?_); rintro e w1 ⟨rfl, rfl⟩)
         | fail)
        go_ret
        exact ⟨by rw [HB.out]; rfl, Below.refl _ _⟩
       have g0 : decide (m < 0) = false := decide_eq_false c0
       by_cases c1 : m > n
       ·have g1 : decide (m > n) = true := decide_eq_true c1
        have HB := Lib.hid (extB_bad (m := m) (n := n) (P := P) (o := x) (r := r) (by unfold extBad; simp [c1]))
        simp only [d1, d2, d3] at k1 k2 k3
        clear d1 d2 d3 hR k5 c1 c0
        go_enter Tryz.func84, Tryz.ntmps84
        go_wp2_with (first
         | ((with_reducible refine (k1 _).mono ?_); rintro e w1 ⟨rfl, rfl⟩)
         | ((with_reducible refine (k2 _).mono ?_); rintro e w1 ⟨rfl, rfl⟩)
         | ((with_reducible refine (k3 _ (Below.refl _ _)).mono ?_); rintro e w1 ⟨rfl, rfl⟩)
         | fail)
        go_ret
        exact ⟨by rw [HB.out]; rfl, Below.refl _ _⟩
       have g1 : decide (m > n) = false := decide_eq_false c1
       by_cases c2 : n > 4096
       ·have g2 : decide (n > 4096) = true := decide_eq_true c2
        have HB := Lib.hid (extB_bad (m := m) (n := n) (P := P) (o := x) (r := r) (by unfold extBad; simp [c2]))
        simp only [d1, d2, d3] at k1 k2 k3
        clear d1 d2 d3 hR k5 c2 c0 c1
        go_enter Tryz.func84, Tryz.ntmps84
        go_wp2_with (first
         | ((with_reducible refine (k1 _).mono ?_); rintro e w1 ⟨rfl, rfl⟩)
         | ((with_reducible refine (k2 _).mono ?_); rintro e w1 ⟨rfl, rfl⟩)
         | ((with_reducible refine (k3 _ (Below.refl _ _)).mono ?_); rintro e w1 ⟨rfl, rfl⟩)
         | fail)
        go_ret
        exact ⟨by rw [HB.out]; rfl, Below.refl _ _⟩
       have g2 : decide (n > 4096) = false := decide_eq_false c2
       obtain ⟨a, rfl⟩ : ∃ a : Nat, m = a := ⟨m.toNat, by omega⟩
       obtain ⟨b, rfl⟩ : ∃ b : Nat, n = b := ⟨n.toNat, by omega⟩
       have hz : extBad a b x r P = false := by unfold extBad; simp [d1, d2, d3]; omega
       have q1 : (b : Int) ≤ 4096 := by omega
       have q2 : (a : Int) ≤ (b : Int) := by omega
       have q3 : decide ((a : Int) < 0) = false := by rw [decide_eq_false_iff_not]; omega
       have q4 : decide ((b : Int) < (a : Int)) = false := by rw [decide_eq_false_iff_not]; omega
       have q6 : decide ((4096 : Int) < (b : Int)) = false := by rw [decide_eq_false_iff_not]; omega
       by_cases h0 : a = 0
       ·subst h0
        have hib : extB ((0 : Nat) : Int) b x r P = (((P.length : Int) == 0) && (x == Sh.sha []) && (decide ((b : Int) > 0) || (r == Sh.sha []))) := by
         unfold extB
         rw [hz, ← isEmpty_len]
         rfl
        rw [hib]
        generalize Sh.sha [] = Z at k5 ⊢
        have k5' : ∀ W, Calls Tryz.prog 59 #[.string ⟨#[]⟩] W fun e w' => e = .returned (.string ⟨Z.toArray⟩) ∧ Below W.heap.size W w' := k5
        simp only [d1, d2, d3] at k1 k2 k3
        clear d1 d2 d3 hR c0 c1 c2 hib hz k5
        have t1 : (((0 : Nat) : Int) == 0) = true := rfl
        go_enter Tryz.func84, Tryz.ntmps84
        go_wp2_with (first
         | ((with_reducible refine (k1 _).mono ?_); rintro e w1 ⟨rfl, rfl⟩)
         | ((with_reducible refine (k2 _).mono ?_); rintro e w1 ⟨rfl, rfl⟩)
         | ((with_reducible refine (k3 _ (Below.refl _ _)).mono ?_); rintro e w1 ⟨rfl, rfl⟩)
         | fail)
        refine (k5' _).mono ?_
        rintro e w4 ⟨rfl, b4⟩
        cases e1 : ((P.length : Int) == 0) with
        | false =>
          go_wp2
          go_ret
          exact ⟨by rw [e1]; rfl, b4⟩
        | true =>
          cases e2 : (x == Z) with
          | false =>
            go_wp2
            go_ret
            exact ⟨by rw [e1, e2]; rfl, b4⟩
          | true =>
            by_cases e3 : b = 0
            ·subst e3
             go_wp2
             go_ret
             exact ⟨by rw [e1, e2]; simp, b4⟩
            ·have e4 : decide ((b : Int) > 0) = true := by simp; omega
             go_wp2
             go_ret
             exact ⟨by rw [e1, e2, e4]; rfl, b4⟩
       ·have t1 : ((a : Int) == 0) = false := by rw [beq_eq_false_iff_ne]; omega
        have hib : extB a b x r P = ((Mk.rd a b x P).2 && ((Mk.rd a b x P).1.1 == x && (Mk.rd a b x P).1.2 == r)) := by
         unfold extB
         rw [hz, if_neg (by omega)]
         rfl
        have k4 := fun W hb => read_spec b A P x a c W (by omega) (by omega) (by omega) (hR.below hb) hc hm
        rw [hib]
        generalize Mk.rd a b x P = G at k4 ⊢
        obtain ⟨⟨O, W9⟩, ok⟩ := G
        generalize Sh.sha [] = Z at k5
        have k5' : ∀ W, Calls Tryz.prog 59 #[.string ⟨#[]⟩] W fun e w' => e = .returned (.string ⟨Z.toArray⟩) ∧ Below W.heap.size W w' := k5
        simp only [d1, d2, d3] at k1 k2 k3
        clear d1 d2 d3 hR c0 c1 c2 hib hz k5
        go_enter Tryz.func84, Tryz.ntmps84
        go_wp2_with (first
         | ((with_reducible refine (k1 _).mono ?_); rintro e w1 ⟨rfl, rfl⟩)
         | ((with_reducible refine (k2 _).mono ?_); rintro e w1 ⟨rfl, rfl⟩)
         | ((with_reducible refine (k3 _ (Below.refl _ _)).mono ?_); rintro e w1 ⟨rfl, rfl⟩)
         | fail)
        refine (k5' _).mono ?_
        rintro e w4 ⟨rfl, b4⟩
        go_wp2_with fail
        refine (k4 _ b4).mono ?_
        rintro e w5 ⟨rfl, b5⟩
        have b6 := b4.trans (b5.mono b4.size)
        have b7 := b6.alloc b6.size (.cells #[.string ⟨O.toArray⟩, .string ⟨W9.toArray⟩] 157)
        cases ok
        ·go_wp2
         go_ret
         exact ⟨rfl, b7⟩
        ·by_cases hO : O = x
         ·subst hO
          by_cases hW : W9 = r
          ·subst hW
           go_wp2
           go_ret
           exact ⟨by simp, b7⟩
          ·have f2 : (W9 == r) = false := beq_eq_false_iff_ne.2 hW
           go_wp2
           go_ret
           exact ⟨by rw [f2]; simp, b7⟩
         ·have f1 : (O == x) = false := beq_eq_false_iff_ne.2 hO
          go_wp2
          go_ret
          exact ⟨by rw [f1]; rfl, b7⟩
end Go.Proofs.YtjjpdnpbhdcpbaaGreat
namespace Go.Proofs.YtjjpdnpbhdcpbaaGreat
set_option linter.unusedVariables false
open Go.RowKit
set_option maxRecDepth 20000 in
set_option maxHeartbeats 1000000 in
theorem samestr_spec (A B : Option Addr) (L M : List Mk.Str) (c d : Nat) (w : World) (hA : Rd w A (strs L)) (hB : Rd w B (strs M)) (hl : L.length ≤ 9223372036854775807) (hm : M.length ≤ 9223372036854775807) :
 Calls Tryz.prog 62 #[.slice A L.length c, .slice B M.length d] w fun e w' => e = .returned (.bool (decide (L = M))) ∧ ∃ k, w' = w.drewN k := by
 by_cases hlen : L.length = M.length
 ·have hne : ((L.length : Int) != (M.length : Int)) = false := by simp [hlen]
  go_enter Tryz.func62, Tryz.ntmps62
  have HL := Lib.hid hlen; clear hlen
  go_wp2
  go_loopw [5] (fun i wr => ∃ k : Nat, k ≤ L.length ∧ i = .int .i64 k ∧ L.take k = M.take k ∧ ∃ q, wr = w.drewN q) (fun i _ => L.length - (intOf i).toNat)
  case atStart => exact ⟨0, Nat.zero_le _, rfl, rfl, 0, rfl⟩
  case round =>
   obtain ⟨k, hk, rfl, htk, q, rfl⟩ := hrel
   have HT := Lib.hid htk; clear htk
   by_cases hlt : k < L.length
   ·have hltM : k < M.length := by have := HL.out; omega
    obtain ⟨b, off, rfl, hc⟩ := hA.str hlt
    obtain ⟨b', off', rfl, hc'⟩ := hB.str hltM
    have hi0 : (0 : Int) ≤ (k : Int) := by omega
    have hi1 : (k : Int) < (L.length : Int) := by omega
    have hi2 : (k : Int) < (M.length : Int) := by omega
    by_cases he : L[k] = M[k]
    ·have he1 : (L[k] != M[k]) = false := by simp [he]
     have he2 : (L[k] == M[k]) = true := by simp [he]
     have HE := Lib.hid he; clear he hA hB
     go_wp2
     go_quiet (fail)
     go_wp2
     go_roundw
     case rel => exact ⟨k + 1, by omega, by go_num, by rw [List.take_succ_eq_append_getElem hlt, List.take_succ_eq_append_getElem hltM, HT.out, HE.out], _, rfl⟩
     case measure => simp [intOf]; omega
    ·have he1 : (L[k] != M[k]) = true := by simp [he]
     have he2 : (L[k] == M[k]) = false := by simp [he]
     have HE := Lib.hid he; clear he hA hB
     go_wp2
     go_quiet (fail)
     go_wp2
     go_ret
     have hf : decide (L = M) = false := by
      simp only [decide_eq_false_iff_not]
      intro h
      subst h
      exact HE.out rfl
     exact ⟨ret_eq (congrArg Value.bool hf.symm), _, drewN_drewN _ _ _⟩
   ·obtain rfl : k = L.length := by omega
    go_wp2
    go_ret
    have : L = M := by
     have h1 := HT.out
     rw [List.take_of_length_le (Nat.le_refl _), HL.out, List.take_of_length_le (Nat.le_refl _)] at h1
     exact h1
    exact ⟨ret_eq (congrArg Value.bool (by simp [this])), _, rfl⟩
 ·have hne : ((L.length : Int) != (M.length : Int)) = true := by simp; omega
  have hf : decide (L = M) = false := by simp; intro h; exact hlen (by rw [h])
  rw [hf]
  clear hlen hf
  go_enter Tryz.func62, Tryz.ntmps62
  go_wp2
  go_ret
  exact ⟨rfl, 0, rfl⟩
def SlR (M : List Mk.Str) (w : World) (e : Ending) (w' : World) : Prop := ∃ A c, e = .returned (.slice A M.length c) ∧ M.length ≤ c ∧ c ≤ maxLen ∧ St w.heap.size w w' [ownR 9 1 (.slice A M.length c) M.length (strs M)]
end Go.Proofs.YtjjpdnpbhdcpbaaGreat
namespace Go.Proofs.YtjjpdnpbhdcpbaaGreat
set_option linter.unusedVariables false
open Go.RowKit
theorem vld_of {L : List Mk.Str} (h : Mk.AllD L) : vld L = true := (vld_iff L).2 h
theorem okL {L : List Mk.Str} (h : Mk.AllD L) (hl : L.length ≤ 4096) : (decide (L.length ≤ 4096) && vld L) = true := by rw [vld_of h, decide_eq_true hl]; rfl
theorem mRoot_ok {L : List Mk.Str} (h : Mk.AllD L) (hl : L.length ≤ 4096) : mRoot L = Mk.root L := by unfold mRoot; rw [if_pos (okL h hl)]
theorem mInc_ok {L : List Mk.Str} (h : Mk.AllD L) (hl : L.length ≤ 4096) (i : Nat) (hi : i < L.length) : mInc L i = (Mk.incl L i, 0) := by
 unfold mInc
 rw [if_pos (okL h hl), if_neg (by omega)]
 rfl
theorem mCon_ok {L : List Mk.Str} (h : Mk.AllD L) (hl : L.length ≤ 4096) (m : Nat) (h1 : 1 ≤ m) (hm : m ≤ L.length) : mCon L m = (Mk.cons L m true, 0) := by
 unfold mCon
 rw [if_pos (okL h hl), if_neg (by omega), if_neg (by omega)]
 rfl
theorem mCon_zero {L : List Mk.Str} (h : Mk.AllD L) (hl : L.length ≤ 4096) : mCon L 0 = ([], 0) := by
 unfold mCon
 rw [if_pos (okL h hl), if_neg (by omega), if_pos rfl]
theorem leaf_dig (L : List Mk.Str) : Mk.AllD (L.map Mk.leaf) := fun x hx => by
 obtain ⟨y, _, rfl⟩ := List.mem_map.1 hx
 exact Sh.sha_length _
theorem incB_ok {L : List Mk.Str} (h : Mk.AllD L) (hl : L.length ≤ 4096) (i : Nat) (hi : i < L.length) : incB L[i] i L.length (Mk.incl L i) (Mk.root L) = true := by
 have hg := Mk.given_incl L.length L i rfl hi
 have hgd : L.getD i [] = L[i] := by simp [List.getD_eq_getElem?_getD, hi]
 rw [hgd] at hg
 have h1 : L[i].length = 32 := h _ (List.getElem_mem hi)
 have h2 := Mk.rootD h
 have h3 := Mk.incl_length L.length L i rfl
 have h4 := Mk.depth_le i L.length
 have h5 := okL (Mk.incl_dig L.length L i (Nat.le_refl _) h) (by omega)
 have hb : incBad L[i] i L.length (Mk.incl L i) (Mk.root L) = false := by
  unfold incBad
  rw [h1, h2, h5]
  simp
  omega
 unfold incB
 rw [hb, Int.toNat_natCast, Int.toNat_natCast, hg]
 simp
theorem cdepth_le (m n : Nat) (b : Bool) (h1 : 1 ≤ n) : Mk.cdepth m n b ≤ n := by
 induction n using Nat.strongRecOn generalizing m b with
 | _ n ih =>
   by_cases h : m = n
   ·subst h; rw [Mk.cdepth_same]; split <;> omega
   ·by_cases h2 : 2 ≤ n
    ·have k0 := Mk.split_pos n
     have k1 := Mk.split_lt h2
     by_cases hi : m ≤ Mk.split n
     ·rw [Mk.cdepth_left m n b h2 h hi]; have := ih (Mk.split n) k1 m b (by omega); omega
     ·rw [Mk.cdepth_right m n b h2 h hi]; have := ih (n - Mk.split n) (by omega) (m - Mk.split n) false (by omega); omega
    ·rw [Mk.cdepth, if_neg h, dif_pos (by omega)]; omega
theorem extB_ok {L : List Mk.Str} (h : Mk.AllD L) (hl : L.length ≤ 4096) (m : Nat) (h1 : 1 ≤ m) (hm : m ≤ L.length) : extB m L.length (Mk.root (L.take m)) (Mk.root L) (Mk.cons L m true) = true := by
 have hr := Mk.rd_cons L.length L m true rfl h h1 hm
 rw [if_pos rfl] at hr
 have h2 := Mk.rootD (h.take m)
 have h3 := Mk.rootD h
 have h4 := Mk.cons_length L.length L m true rfl h1 hm
 have h5 := cdepth_le m L.length true (by omega)
 have h6 := okL (Mk.cons_dig L.length L m true (Nat.le_refl _) h) (by omega)
 have hb : extBad m L.length (Mk.root (L.take m)) (Mk.root L) (Mk.cons L m true) = false := by
  unfold extBad
  rw [h2, h3, h6]
  simp
  omega
 unfold extB
 rw [hb, if_neg (by omega), Int.toNat_natCast, Int.toNat_natCast, hr]
 simp
theorem extB_zero {L : List Mk.Str} (h : Mk.AllD L) (hl : L.length ≤ 4096) : extB 0 L.length (Sh.sha []) (Mk.root L) [] = true := by
 have h3 := Mk.rootD h
 have h2 : (Sh.sha []).length = 32 := Sh.sha_length _
 have hb : extBad 0 L.length (Sh.sha []) (Mk.root L) [] = false := by
  unfold extBad
  rw [h2, h3, okL Mk.AllD.nil (by decide)]
  simp
  omega
 unfold extB
 rw [hb, if_pos rfl]
 by_cases h0 : L.length = 0
 ·obtain rfl := List.eq_nil_of_length_eq_zero h0
  rw [Mk.root_nil]
  simp
 ·have : decide ((L.length : Int) > 0) = true := by simp; omega
  rw [this]
  simp
end Go.Proofs.YtjjpdnpbhdcpbaaGreat
