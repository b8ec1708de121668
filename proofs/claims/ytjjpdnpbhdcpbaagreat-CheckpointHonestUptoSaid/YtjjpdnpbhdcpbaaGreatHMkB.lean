/-
  Consistency proofs, in the program and in the reference. Conditions: at most 2^40 leaves.
-/
import Derived.Test.YtjjpdnpbhdcpbaaGreatQMkB
import Derived.Test.YtjjpdnpbhdcpbaaGreatQMkA
import Derived.Test.YtjjpdnpbhdcpbaaGreatLayJ
import Derived.Test.YtjjpdnpbhdcpbaaGreatHPa
import Derived.Test.YtjjpdnpbhdcpbaaGreatQBase
import Derived.Test.YtjjpdnpbhdcpbaaGreatQShaA
import Derived.Test.YtjjpdnpbhdcpbaaGreatProg
import Derived.Laws.BitsAllLaws
import Derived.BigQuiet
import Derived.BigRegion
import Derived.Deep.RegionHeld3
import Derived.Test.YtjjpdnpbhdcpbaaGreatLayC
import Derived.Test.YtjjpdnpbhdcpbaaGreatLay
import Derived.Test.YtjjpdnpbhdcpbaaGreatQShaB
import Derived.Laws.CopyRow
import Derived.Laws.IdiomStrings
import Derived.Lib.Bytealg
import Derived.Laws.MakeOwn
import Derived.Test.YtjjpdnpbhdcpbaaGreatLayL
import Derived.Deep.QuietTactic
import Derived.StillTailTactics
namespace Go.Proofs.YtjjpdnpbhdcpbaaGreat
set_option linter.unusedVariables false
open Go.RowKit
set_option maxRecDepth 20000 in
set_option maxHeartbeats 4000000 in
theorem rcons_spec : ∀ (n : Nat) (A : Option Addr) (L : List Mk.Str) (m c : Nat) (q : Bool) (w : World), L.length ≤ n → n ≤ 1099511627776 → Rd w A (strs L) → L.length ≤ c → c ≤ maxLen → 1 ≤ m → m ≤ L.length →
 Calls Tryz.prog 93 #[.int .i64 (m : Int), .slice A L.length c, .bool q] w fun e w' => ∃ v, e = .returned v ∧ St w.heap.size w w' [ownR 9 1 v (Mk.cons L m q).length (strs (Mk.cons L m q))] := by
 intro n
 induction n with
 | zero => intro A L m c q w hl hn hR hc hm hm1 hmn; omega
 | succ n ih =>
   intro A L m c q w hl hn hR hc hm hm1 hmn
   by_cases hmN : m = L.length
   ·have k0 := rroot_spec (L.length) A L c w (Nat.le_refl _) (by omega) hR hc hm
    have hcw := Mk.cons_whole L q
    rw [← hmN] at hcw k0 ⊢
    rw [hcw]
    have g1 : ((m : Int) == (m : Int)) = true := by simp
    clear hmN hcw hl hR hc hmn ih
    generalize Mk.root L = R at k0 ⊢
    cases q with
    | true =>
      go_enter Tryz.func93, Tryz.ntmps93
      go_wp2
      go_ret
      exact ⟨_, rfl, (St.nil w).new_own (Below.refl _ w) (World.ownsRow_nil _ _ _ _)⟩
    | false =>
      go_enter Tryz.func93, Tryz.ntmps93
      go_wp2_with fail
      refine k0.mono ?_
      rintro e w1 ⟨rfl, b1⟩
      have h1 := ((St.nil w).under b1).new_own ((Below.refl _ w1).alloc (Nat.le_refl _) _) (World.ownsRow_lit (e := 9) (size := 1) w1 #[.string ⟨R.toArray⟩] 1 (Nat.le_refl _) (by decide) rfl)
      clear k0
      go_wp2
      go_ret
      exact ⟨_, rfl, h1⟩
   ·obtain ⟨b, off, hA, _⟩ := hR.str (k := 0) (by omega)
    subst hA
    have hk0 := Mk.split_pos L.length
    have hk1 := Mk.split_lt (n := L.length) (by omega)
    have ks := fun W => rsplit_spec L.length (by omega) (by omega) W
    obtain ⟨k, hk⟩ : ∃ k, Mk.split L.length = k := ⟨_, rfl⟩
    have ht := rd_take hR k
    have hd := rd_drop hR k
    have lt : k ≤ L.length → (L.take k).length = k := fun h => by rw [List.length_take]; omega
    have ld : (L.drop k).length = L.length - k := List.length_drop
    by_cases hik : m ≤ k
    ·rw [hk] at hk0 hk1 ks
     have k1 := fun (W : World) (hb : Below w.heap.size w W) => ih (some ⟨b, off, none⟩) (L.take k) m c q W (by rw [lt (by omega)]; omega) (by omega) (ht.below hb) (by rw [lt (by omega)]; omega) hm hm1 (by rw [lt (by omega)]; omega)
     have k2 := fun (W : World) (hb : Below w.heap.size w W) => rroot_spec (L.length) (some ⟨b, off + k, none⟩) (L.drop k) (c - k) W (by omega) (by omega) (hd.below hb) (by omega) (by unfold maxLen at hm ⊢; omega)
     have hin := Mk.cons_left L m q (by omega) hmN (by rw [hk]; exact hik)
     have hml := Mk.cons_length _ (L.take k) m q rfl hm1 (by rw [lt (by omega)]; omega)
     have hmd := Mk.cdepth_le m (L.take k).length q
     rw [lt (by omega)] at k1 hml hmd
     rw [ld] at k2
     rw [hk] at hin
     have HN := Lib.hid hin
     generalize Mk.cons (L.take k) m q = M at k1 HN hml
     generalize Mk.root (L.drop k) = R at k2 HN
     obtain ⟨N, hN⟩ : ∃ N, L.length = N := ⟨_, rfl⟩
     rw [hN] at hl hc hk1 ks hmn hmN k2 ⊢
     have hM : M.length ≤ N + 1 := by omega
     have q2 : M.length + 1 ≤ maxLen := by unfold maxLen; omega
     have q1 : (M.length + 1) * 16 ≤ 140737488355328 := by omega
     have HX := Lib.hid (And.intro hN (And.intro hk (And.intro hR (And.intro ht hd))))
     clear hN hk hR ht hd lt ld ih hin hml hmd hM
     have i0 : ((m : Int) == (N : Int)) = false := by rw [beq_eq_false_iff_ne]; omega
     have i2 : (0 : Int) ≤ (k : Int) := by omega
     have i3 : (k : Int) ≤ (N : Int) := by omega
     have i4 : (k : Int) ≤ (c : Int) := by omega
     have i5 : (N : Int) ≤ (c : Int) := by omega
     have i6 : ¬ (k = c) := by omega
     have i7 : ((N - k : Nat) : Int) = (N : Int) - (k : Int) := by omega
     have i8 : ((c - k : Nat) : Int) = (c : Int) - (k : Int) := by omega
     have i9 : ¬ (c = k) := by omega
     have g1 : decide ((m : Int) ≤ (k : Int)) = true := by simp; omega
     unfold maxLen at hm
     go_enter Tryz.func93, Tryz.ntmps93
     go_wp2_with (first
      | ((with_reducible refine (ks _).mono ?_); rintro e w1 ⟨rfl, rfl⟩)
      | fail)
     have b0 : Below w.heap.size w w.drew := (Below.refl _ w).drew
     have s0 : St w.heap.size w w.drew [] := (St.nil w).drew
     go_region_held3 (fun w' => w.heap.size ≤ w'.heap.size)
      (first
        | exact Nat.le_refl _
        | exact h8.size
        | exact (h2.alloc0 _).size
        | exact h2.size
        | exact h1.size
        | fail)
      (first
        | (with_reducible refine (k1 _ b0).mono ?_
           rintro e w1 ⟨v1, rfl, t1⟩
           have h1 := s0.join t1)
        | (with_reducible refine (k2 _ h1.below).mono ?_
           rintro e w2 ⟨rfl, c2⟩
           have h2 := h1.under c2)
        | (refine stepA 27 (te := 9) (u := .string ⟨R.toArray⟩) h2 Tryz.underlying27 info_str rfl _ _ (by rfl) (by rfl) (by rfl) (by rfl) rfl q2 q1 ?_
           intro gg cap w5 h8)
        | fail)
     all_goals
      go_wp2
      go_ret
      refine ⟨_, rfl, ?_⟩
      rw [HN.out, strs_append, List.length_append]
      exact h8
    ·rw [hk] at hk0 hk1 ks
     have k1 := fun (W : World) (hb : Below w.heap.size w W) => ih (some ⟨b, off + k, none⟩) (L.drop k) (m - k) (c - k) false W (by omega) (by omega) (hd.below hb) (by omega) (by unfold maxLen at hm ⊢; omega) (by omega) (by omega)
     have k2 := fun (W : World) (hb : Below w.heap.size w W) => rroot_spec (L.length) (some ⟨b, off, none⟩) (L.take k) c W (by rw [lt (by omega)]; omega) (by omega) (ht.below hb) (by rw [lt (by omega)]; omega) hm
     have hin := Mk.cons_right L m q (by omega) hmN (by rw [hk]; exact hik)
     have hml := Mk.cons_length _ (L.drop k) (m - k) false rfl (by omega) (by omega)
     have hmd := Mk.cdepth_le (m - k) (L.drop k).length false
     rw [ld] at k1 hml hmd
     rw [lt (by omega)] at k2
     rw [hk] at hin
     have HN := Lib.hid hin
     have j1 : (m : Int) - (k : Int) = ((m - k : Nat) : Int) := by omega
     generalize m - k = m' at k1 HN hml hmd j1
     generalize Mk.cons (L.drop k) m' false = M at k1 HN hml
     generalize Mk.root (L.take k) = R at k2 HN
     obtain ⟨N, hN⟩ : ∃ N, L.length = N := ⟨_, rfl⟩
     rw [hN] at hl hc hk1 ks hmn hmN hml hmd k1 ⊢
     have hM : M.length ≤ N + 1 := by omega
     have q2 : M.length + 1 ≤ maxLen := by unfold maxLen; omega
     have q1 : (M.length + 1) * 16 ≤ 140737488355328 := by omega
     have HX := Lib.hid (And.intro hN (And.intro hk (And.intro hR (And.intro ht hd))))
     clear hN hk hR ht hd lt ld ih hin hml hmd hM
     have i0 : ((m : Int) == (N : Int)) = false := by rw [beq_eq_false_iff_ne]; omega
     have i2 : (0 : Int) ≤ (k : Int) := by omega
     have i3 : (k : Int) ≤ (N : Int) := by omega
     have i4 : (k : Int) ≤ (c : Int) := by omega
     have i5 : (N : Int) ≤ (c : Int) := by omega
     have i6 : ¬ (k = c) := by omega
     have i7 : ((N - k : Nat) : Int) = (N : Int) - (k : Int) := by omega
     have i8 : ((c - k : Nat) : Int) = (c : Int) - (k : Int) := by omega
     have i9 : ¬ (c = k) := by omega
     have j2 : IntKind.i64.wrap (m' : Int) = (m' : Int) := by rw [IntWalk.i64_left, IntWalk.wrap64_in _ (by omega)]
     have g1 : decide ((m : Int) ≤ (k : Int)) = false := by simp; omega
     unfold maxLen at hm
     go_enter Tryz.func93, Tryz.ntmps93
     go_wp2_with (first
      | ((with_reducible refine (ks _).mono ?_); rintro e w1 ⟨rfl, rfl⟩)
      | fail)
     have b0 : Below w.heap.size w w.drew := (Below.refl _ w).drew
     have s0 : St w.heap.size w w.drew [] := (St.nil w).drew
     go_region_held3 (fun w' => w.heap.size ≤ w'.heap.size)
      (first
        | exact Nat.le_refl _
        | exact h8.size
        | exact (h2.alloc0 _).size
        | exact h2.size
        | exact h1.size
        | fail)
      (first
        | (with_reducible refine (k1 _ b0).mono ?_
           rintro e w1 ⟨v1, rfl, t1⟩
           have h1 := s0.join t1)
        | (with_reducible refine (k2 _ h1.below).mono ?_
           rintro e w2 ⟨rfl, c2⟩
           have h2 := h1.under c2)
        | (refine stepA 27 (te := 9) (u := .string ⟨R.toArray⟩) h2 Tryz.underlying27 info_str rfl _ _ (by rfl) (by rfl) (by rfl) (by rfl) rfl q2 q1 ?_
           intro gg cap w5 h8)
        | fail)
     all_goals
      go_wp2
      go_ret
      refine ⟨_, rfl, ?_⟩
      rw [HN.out, strs_append, List.length_append]
      exact h8
end Go.Proofs.YtjjpdnpbhdcpbaaGreat
namespace Go.Proofs.YtjjpdnpbhdcpbaaGreat
set_option linter.unusedVariables false
open Go.RowKit
end Go.Proofs.YtjjpdnpbhdcpbaaGreat
namespace Go.Proofs.YtjjpdnpbhdcpbaaGreat
set_option linter.unusedVariables false
open Go.RowKit
set_option maxRecDepth 20000 in
set_option maxHeartbeats 2000000 in
theorem con_rk (A : Option Addr) (L : List Mk.Str) (c : Nat) (i : Int) (w : World) (hR : Rd w A (strs L)) (hl : L.length ≤ 1099511627776) (hc : L.length ≤ c) (hm : c ≤ maxLen) :
 Calls Tryz.prog 47 #[.slice A L.length c, .int .i64 i] w (PrP (mCon L i) w) := by
 have k1 := rvalid_spec A L c w hR (by omega)
 have z0 : St w.heap.size w w [ownR 9 1 (.slice none 0 0) 0 (strs [])] := (St.nil w).new_own (Below.refl _ w) (World.ownsRow_nil _ _ _ _)
 unfold mCon
 cases hq : (decide (L.length ≤ 4096) && vld L) with
 | true =>
   rw [hq] at k1
   clear hq
   rw [if_pos rfl]
   by_cases h0 : i < 0
   ·rw [if_pos (.inl h0)]
    have g0 : decide (i < 0) = true := by simp; exact h0
    clear hR
    go_enter Tryz.func47, Tryz.ntmps47
    go_wp2_with fail
    refine k1.mono ?_
    rintro e w' ⟨rfl, rfl⟩
    go_wp2
    go_ret2
    exact ⟨_, rfl, z0⟩
   have g0 : decide (i < 0) = false := by simp; omega
   by_cases h1 : (L.length : Int) < i
   ·rw [if_pos (.inr h1)]
    have g1 : decide (i > (L.length : Int)) = true := by simp; omega
    clear hR
    go_enter Tryz.func47, Tryz.ntmps47
    go_wp2_with fail
    refine k1.mono ?_
    rintro e w' ⟨rfl, rfl⟩
    go_wp2
    go_ret2
    exact ⟨_, rfl, z0⟩
   rw [if_neg (by omega)]
   have g1 : decide (i > (L.length : Int)) = false := by simp; omega
   by_cases h2 : i = 0
   ·rw [if_pos h2]
    have g2 : (i == 0) = true := by simp [h2]
    subst h2
    clear hR
    go_enter Tryz.func47, Tryz.ntmps47
    go_wp2_with fail
    refine k1.mono ?_
    rintro e w' ⟨rfl, rfl⟩
    go_wp2
    go_ret2
    exact ⟨_, rfl, z0⟩
   ·rw [if_neg h2]
    have g2 : (i == 0) = false := by rw [beq_eq_false_iff_ne]; exact h2
    obtain ⟨m, rfl⟩ : ∃ m : Nat, i = m := ⟨i.toNat, by omega⟩
    have k2 := rcons_spec L.length A L m c true w (Nat.le_refl _) (by omega) hR hc hm (by omega) (by omega)
    rw [Int.toNat_natCast]
    clear hR
    generalize Mk.cons L m true = M at k2 ⊢
    go_enter Tryz.func47, Tryz.ntmps47
    go_wp2_with fail
    refine k1.mono ?_
    rintro e w' ⟨rfl, rfl⟩
    go_wp2_with fail
    refine k2.mono ?_
    rintro e w' ⟨v, rfl, h⟩
    go_wp2
    go_ret2
    exact ⟨_, rfl, h⟩
 | false =>
   rw [hq] at k1
   clear hq hR
   rw [if_neg (by simp)]
   go_enter Tryz.func47, Tryz.ntmps47
   go_wp2_with fail
   refine k1.mono ?_
   rintro e w' ⟨rfl, rfl⟩
   go_wp2
   go_ret2
   exact ⟨_, rfl, z0⟩
end Go.Proofs.YtjjpdnpbhdcpbaaGreat
namespace Go.Proofs.YtjjpdnpbhdcpbaaGreat
set_option linter.unusedVariables false
open Go.RowKit
end Go.Proofs.YtjjpdnpbhdcpbaaGreat
namespace Go.Proofs.YtjjpdnpbhdcpbaaGreat
set_option linter.unusedVariables false
open Go.RowKit
end Go.Proofs.YtjjpdnpbhdcpbaaGreat
namespace Go.Proofs.YtjjpdnpbhdcpbaaGreat
set_option linter.unusedVariables false
open Go.RowKit
end Go.Proofs.YtjjpdnpbhdcpbaaGreat
namespace Go.Proofs.YtjjpdnpbhdcpbaaGreat
set_option linter.unusedVariables false
open Go.RowKit
end Go.Proofs.YtjjpdnpbhdcpbaaGreat
namespace Go.Proofs.YtjjpdnpbhdcpbaaGreat
set_option linter.unusedVariables false
open Go.RowKit
def fewB (L : List Mk.Str) : Bool := decide (L.length ≤ 70) && decide ((L.map List.length).sum ≤ 20000)
set_option maxRecDepth 20000 in
set_option maxHeartbeats 1000000 in
theorem mfew_spec (A : Option Addr) (L : List Mk.Str) (c : Nat) (w : World) (hR : Rd w A (strs L)) (hb : weight L ≤ 9223372036854775807) :
 Calls Tryz.prog 34 #[.slice A L.length c] w fun e w' => e = .returned (.bool (fewB L)) ∧ w = w' := by
 have hL63 : L.length ≤ 9223372036854775807 := by unfold weight at hb; omega
 go_enter Tryz.func34, Tryz.ntmps34
 go_wp2
 go_loop [3, 4] (fun n i => ∃ k : Nat, k ≤ L.length ∧ i = .int .i64 k ∧ n = .int .i64 ((((L.take k).map List.length).sum : Nat) : Int)) (fun _ i => L.length - (intOf i).toNat)
 case atStart => exact ⟨0, Nat.zero_le _, rfl, by simp⟩
 case round =>
  obtain ⟨k, hk, rfl, rfl⟩ := hrel
  by_cases hlt : k < L.length
  ·obtain ⟨b, off, rfl, hc⟩ := hR.str hlt
   have ht := weight_take L k hlt
   have hle := weight_take_le L (k + 1)
   have hb1 : ((L.take k).map List.length).sum + L[k].length ≤ 9223372036854775807 := by unfold weight at hb; omega
   obtain ⟨m, hm⟩ : ∃ m, ((L.take k).map List.length).sum = m := ⟨_, rfl⟩
   rw [hm] at hb1 ht
   rw [hm]
   have HT := Lib.hid ht; have HM := Lib.hid hm
   clear ht hm hle hb
   go_wp2
   go_round
   case rel => exact ⟨k + 1, by omega, by go_num, by rw [HT.out]; go_num⟩
   case measure => simp [intOf]; omega
  ·obtain rfl : k = L.length := by omega
   rw [List.take_length]
   obtain ⟨m, hm⟩ : ∃ m, (L.map List.length).sum = m := ⟨_, rfl⟩
   rw [hm]
   have HM := Lib.hid hm
   have hf : fewB L = (decide (L.length ≤ 70) && decide (m ≤ 20000)) := by unfold fewB; rw [hm]
   have HR := Lib.hid hR
   have HF := Lib.hid hf
   clear hm hf hb hR
   have hlt2 : decide ((L.length : Int) < (L.length : Int)) = false := by simp
   have g2 : decide ((m : Int) ≤ 20000) = decide (m ≤ 20000) := decide_eq_decide.2 (by omega)
   have G2 := Lib.hid g2
   clear g2
   by_cases h7 : L.length ≤ 70
   ·have g1 : decide ((L.length : Int) ≤ 70) = true := by simp; omega
    have g3 : decide (L.length ≤ 70) = true := by simp; omega
    go_wp2
    go_ret
    exact ⟨by rw [HF.out, g3, ← G2.out]; rfl, rfl⟩
   ·have g1 : decide ((L.length : Int) ≤ 70) = false := by simp; omega
    have g3 : decide (L.length ≤ 70) = false := by simp; omega
    go_wp2
    go_ret
    exact ⟨by rw [HF.out, g3]; rfl, rfl⟩
end Go.Proofs.YtjjpdnpbhdcpbaaGreat
namespace Go.Proofs.YtjjpdnpbhdcpbaaGreat
set_option linter.unusedVariables false
open Go.RowKit
theorem tmod_nat (a n : Nat) : (a : Int).tmod (n : Int) = ((a % n : Nat) : Int) := by rw [Int.tmod_eq_emod_of_nonneg (by omega)]; rfl
end Go.Proofs.YtjjpdnpbhdcpbaaGreat
