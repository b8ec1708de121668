/-
  Consistency proofs, in the program and in the reference. Conditions: at most 2^40 leaves.
-/
import Derived.Test.YtnlpakalcckaiaaMkA
import Derived.Deep.QuietTactic
import Derived.BigQuiet
import Derived.StillTailTactics
namespace Go.Proofs.Ytnlpakalcckaiaa
set_option linter.unusedVariables false
open Go.RowKit

theorem Mk.cdepth_le (m n : Nat) (b : Bool) : Mk.cdepth m n b ≤ n + 1 := by
  induction n using Nat.strongRecOn generalizing m b with
  | _ n ih =>
    by_cases hm : m = n
    · subst hm; rw [Mk.cdepth_same]; cases b <;> simp
    · by_cases h : n < 2
      · rw [Mk.cdepth, if_neg hm, dif_pos h]; omega
      · have h1 := Mk.split_lt (n := n) (by omega)
        have h2 := Mk.split_pos n
        by_cases hi : m ≤ Mk.split n
        · rw [Mk.cdepth_left m n b (by omega) hm hi]; have := ih (Mk.split n) h1 m b; omega
        · rw [Mk.cdepth_right m n b (by omega) hm hi]; have := ih (n - Mk.split n) (by omega) (m - Mk.split n) false; omega
end Go.Proofs.Ytnlpakalcckaiaa
/-
  valid lists of leaf hashes. Conditions: none.
-/
namespace Go.Proofs.Ytnlpakalcckaiaa
set_option linter.unusedVariables false
open Go.RowKit

def vld (L : List Mk.Str) : Bool := L.all fun s => decide (s.length = 32)
theorem undig_spec (s : Mk.Str) (w : World) : Calls Try.prog 78 #[.string ⟨s.toArray⟩] w fun e w' => e = .returned (.bool (!decide (s.length = 32))) ∧ w = w' := by
  have k := digest_spec s
  go_enter Try.func78, Try.ntmps78
  cases hd : decide (s.length = 32) with
  | true =>
    rw [hd] at k
    clear hd
    go_wp2_with fail
    refine (k _).mono ?_
    rintro e w' ⟨rfl, rfl⟩
    go_wp2
    go_ret
    exact ⟨rfl, rfl⟩
  | false =>
    rw [hd] at k
    clear hd
    go_wp2_with fail
    refine (k _).mono ?_
    rintro e w' ⟨rfl, rfl⟩
    go_wp2
    go_ret
    exact ⟨rfl, rfl⟩
theorem vld_take (L : List Mk.Str) (k : Nat) (h : k < L.length) : vld (L.take (k + 1)) = (vld (L.take k) && decide (L[k].length = 32)) := by
  unfold vld
  rw [List.take_succ_eq_append_getElem h, List.all_append]
  simp
theorem vld_bad (L : List Mk.Str) (k : Nat) (h : k < L.length) (hb : ¬ L[k].length = 32) : vld L = false := by
  unfold vld
  rw [List.all_eq_false]
  exact ⟨L[k], List.getElem_mem h, by simpa using hb⟩
theorem vld_iff (L : List Mk.Str) : vld L = true ↔ Mk.AllD L := by
  unfold vld Mk.AllD
  simp
def IxP (q : Bool) (w : World) (e : Ending) (w' : World) : Prop := ∃ j : Int, e = .returned (.int .i64 j) ∧ w = w' ∧ (decide (j ≥ 0) = !q)
set_option maxRecDepth 20000 in
theorem index_func (f : Nat) (he : ∀ args w, (callFunc f args).run Try.prog w = .ok (.enter f args) w) (kf : ∀ (s : Mk.Str) (w : World), Calls Try.prog f #[.string ⟨s.toArray⟩] w fun e w' => e = .returned (.bool (!decide (s.length = 32))) ∧ w = w') (A : Option Addr) (L : List Mk.Str) (c : Nat) (w : World) (hR : Rd w A (strs L)) (hl : L.length ≤ 9223372036854775807) :
    Calls Try.prog 52 #[.slice A L.length c, .func (.func f) #[] #[]] w (IxP (vld L) w) := by
  have HR := Lib.hid hR
  clear hR
  go_enter Try.func52, Try.ntmps52
  go_wp2
  go_loop [8] (fun i => ∃ k : Nat, k ≤ L.length ∧ i = .int .i64 k ∧ vld (L.take k) = true) (fun i => L.length - (intOf i).toNat)
  case atStart => exact ⟨0, Nat.zero_le _, rfl, rfl⟩
  case round =>
    obtain ⟨k, hk, rfl, hv⟩ := hrel
    by_cases hlt : k < L.length
    · obtain ⟨b, off, hA, hcc⟩ := HR.out.str hlt
      subst hA
      have hk1 : (k : Int) < (L.length : Int) := by omega
      have hk0 : (0 : Int) ≤ (k : Int) := by omega
      have k1 := kf L[k]
      have hst := vld_take L k hlt
      rw [hv] at hst
      by_cases h32 : L[k].length = 32
      · rw [decide_eq_true h32] at k1 hst
        have HS := Lib.hid hst
        generalize L[k] = x at hcc k1
        clear hst hv h32
        go_wp2_with fail
        refine (k1 _).mono ?_
        rintro e w' ⟨rfl, rfl⟩
        go_wp2
        go_round
        case rel => exact ⟨k + 1, by omega, by go_num, HS.out⟩
        case measure => simp [intOf]; omega
      · have hb := vld_bad L k hlt h32
        rw [decide_eq_false h32] at k1
        have HS := Lib.hid hb
        generalize L[k] = x at hcc k1
        clear hst hv h32 hb
        go_wp2_with fail
        refine (k1 _).mono ?_
        rintro e w' ⟨rfl, rfl⟩
        go_wp2
        go_ret
        refine ⟨(k : Int), rfl, rfl, ?_⟩
        rw [HS.out]
        simp
    · obtain rfl : k = L.length := by omega
      rw [List.take_length] at hv
      have HS := Lib.hid hv
      clear hv
      have hge : decide ((L.length : Int) < (L.length : Int)) = false := by simp
      go_wp2
      go_ret
      refine ⟨-1, rfl, rfl, ?_⟩
      rw [HS.out]
      rfl
theorem contains_func (f : Nat) (he : ∀ args w, (callFunc f args).run Try.prog w = .ok (.enter f args) w) (kf : ∀ (s : Mk.Str) (w : World), Calls Try.prog f #[.string ⟨s.toArray⟩] w fun e w' => e = .returned (.bool (!decide (s.length = 32))) ∧ w = w') (A : Option Addr) (L : List Mk.Str) (c : Nat) (w : World) (hR : Rd w A (strs L)) (hl : L.length ≤ 9223372036854775807) :
    Calls Try.prog 27 #[.slice A L.length c, .func (.func f) #[] #[]] w fun e w' => e = .returned (.bool (!vld L)) ∧ w = w' := by
  have k := index_func f he kf A L c w hR hl
  generalize vld L = q at k ⊢
  go_enter Try.func27, Try.ntmps27
  go_wp2_with fail
  refine k.mono ?_
  rintro e w' ⟨j, rfl, rfl, hj⟩
  have HJ := Lib.hid hj
  clear hj k
  go_wp2
  go_ret
  exact ⟨by rw [← HJ.out]; rfl, rfl⟩
theorem valid_spec (A : Option Addr) (L : List Mk.Str) (c : Nat) (w : World) (hR : Rd w A (strs L)) (hl : L.length ≤ 9223372036854775807) :
    Calls Try.prog 47 #[.slice A L.length c] w fun e w' => e = .returned (.bool (decide (L.length ≤ 4096) && vld L)) ∧ w = w' := by
  by_cases h : L.length ≤ 4096
  · have g1 : decide ((L.length : Int) ≤ 4096) = true := by simp; omega
    have k := contains_func 78 (enters_of Try.func78 (by kernel_rfl) rfl) undig_spec A L c w hR hl
    rw [decide_eq_true h, Bool.true_and]
    generalize vld L = q at k ⊢
    go_enter Try.func47, Try.ntmps47
    go_wp2_with fail
    refine k.mono ?_
    rintro e w' ⟨rfl, rfl⟩
    cases q
    · go_wp2
      go_ret
      exact ⟨rfl, rfl⟩
    · go_wp2
      go_ret
      exact ⟨rfl, rfl⟩
  · have g1 : decide ((L.length : Int) ≤ 4096) = false := by simp; omega
    rw [decide_eq_false h, Bool.false_and]
    go_enter Try.func47, Try.ntmps47
    go_wp2
    go_ret
    exact ⟨rfl, rfl⟩
end Go.Proofs.Ytnlpakalcckaiaa
/-
  Root, Inclusion and Consistency, in the program and in the reference. Conditions: at most 2^40 leaves.
-/
namespace Go.Proofs.Ytnlpakalcckaiaa
set_option linter.unusedVariables false
open Go.RowKit

def mRoot (L : List Mk.Str) : Mk.Str := if (decide (L.length ≤ 4096) && vld L) = true then Mk.root L else []
def mInc (L : List Mk.Str) (i : Int) : List Mk.Str × Int := if (decide (L.length ≤ 4096) && vld L) = true then (if i < 0 ∨ (L.length : Int) ≤ i then ([], 2) else (Mk.incl L i.toNat, 0)) else ([], 1)
def mCon (L : List Mk.Str) (i : Int) : List Mk.Str × Int := if (decide (L.length ≤ 4096) && vld L) = true then (if i < 0 ∨ (L.length : Int) < i then ([], 2) else if i = 0 then ([], 0) else (Mk.cons L i.toNat true, 0)) else ([], 1)
/-- a list and an error are returned -/
def PrP (x : List Mk.Str × Int) (w : World) (e : Ending) (w' : World) : Prop := ∃ v, e = .returned (.tuple #[v, .int .i64 x.2]) ∧ St w.heap.size w w' [ownR 9 1 v x.1.length (strs x.1)]
set_option maxRecDepth 20000 in
set_option maxHeartbeats 2000000 in
theorem root_mk (A : Option Addr) (L : List Mk.Str) (c : Nat) (w : World) (hR : Rd w A (strs L)) (hl : L.length ≤ 1099511627776) (hc : L.length ≤ c) (hm : c ≤ maxLen) :
    Calls Try.prog 20 #[.slice A L.length c] w fun e w' => e = .returned (.string ⟨(mRoot L).toArray⟩) ∧ Below w.heap.size w w' := by
  have k1 := valid_spec A L c w hR (by omega)
  have k2 := mroot_spec L.length A L c w (Nat.le_refl _) (by omega) hR hc hm
  unfold mRoot
  cases hq : (decide (L.length ≤ 4096) && vld L) with
  | true =>
    rw [hq] at k1
    clear hq hR
    rw [if_pos rfl]
    generalize Mk.root L = R at k2 ⊢
    go_enter Try.func20, Try.ntmps20
    go_wp2_with fail
    refine k1.mono ?_
    rintro e w' ⟨rfl, rfl⟩
    go_wp2_with fail
    refine k2.mono ?_
    rintro e w' ⟨rfl, b⟩
    go_wp2
    go_ret
    exact ⟨rfl, b⟩
  | false =>
    rw [hq] at k1
    clear hq hR k2
    rw [if_neg (by simp)]
    go_enter Try.func20, Try.ntmps20
    go_wp2_with fail
    refine k1.mono ?_
    rintro e w' ⟨rfl, rfl⟩
    go_wp2
    go_ret
    exact ⟨rfl, Below.refl _ _⟩
set_option maxRecDepth 20000 in
set_option maxHeartbeats 2000000 in
theorem inc_mk (A : Option Addr) (L : List Mk.Str) (c : Nat) (i : Int) (w : World) (hR : Rd w A (strs L)) (hl : L.length ≤ 1099511627776) (hc : L.length ≤ c) (hm : c ≤ maxLen) :
    Calls Try.prog 26 #[.slice A L.length c, .int .i64 i] w (PrP (mInc L i) w) := by
  have k1 := valid_spec A L c w hR (by omega)
  have z0 : St w.heap.size w w [ownR 9 1 (.slice none 0 0) 0 (strs [])] := (St.nil w).new_own (Below.refl _ w) (World.ownsRow_nil _ _ _ _)
  unfold mInc
  cases hq : (decide (L.length ≤ 4096) && vld L) with
  | true =>
    rw [hq] at k1
    clear hq
    rw [if_pos rfl]
    by_cases h0 : i < 0
    · rw [if_pos (.inl h0)]
      have g0 : decide (i < 0) = true := by simp; exact h0
      clear hR
      go_enter Try.func26, Try.ntmps26
      go_wp2_with fail
      refine k1.mono ?_
      rintro e w' ⟨rfl, rfl⟩
      go_wp2
      go_ret2
      exact ⟨_, rfl, z0⟩
    have g0 : decide (i < 0) = false := by simp; omega
    by_cases h1 : (L.length : Int) ≤ i
    · rw [if_pos (.inr h1)]
      have g1 : decide (i ≥ (L.length : Int)) = true := by simp; omega
      clear hR
      go_enter Try.func26, Try.ntmps26
      go_wp2_with fail
      refine k1.mono ?_
      rintro e w' ⟨rfl, rfl⟩
      go_wp2
      go_ret2
      exact ⟨_, rfl, z0⟩
    · rw [if_neg (by omega)]
      have g1 : decide (i ≥ (L.length : Int)) = false := by simp; omega
      obtain ⟨m, rfl⟩ : ∃ m : Nat, i = m := ⟨i.toNat, by omega⟩
      have k2 := mincl_spec L.length A L m c w (Nat.le_refl _) (by omega) hR hc hm (by omega)
      rw [Int.toNat_natCast]
      clear hR
      generalize Mk.incl L m = M at k2 ⊢
      go_enter Try.func26, Try.ntmps26
      go_wp2_with fail
      refine k1.mono ?_
      rintro e w' ⟨rfl, rfl⟩
      go_wp2_with fail
      refine k2.mono ?_
      rintro e w' ⟨v, rfl, h⟩
      go_wp2
      go_ret2
      exact ⟨_, rfl, h⟩
  | false =>
    rw [hq] at k1
    clear hq hR
    rw [if_neg (by simp)]
    go_enter Try.func26, Try.ntmps26
    go_wp2_with fail
    refine k1.mono ?_
    rintro e w' ⟨rfl, rfl⟩
    go_wp2
    go_ret2
    exact ⟨_, rfl, z0⟩
end Go.Proofs.Ytnlpakalcckaiaa
/-
  Inclusion proofs verified. Conditions: at most 2^40 leaves.
-/
namespace Go.Proofs.Ytnlpakalcckaiaa
set_option linter.unusedVariables false
open Go.RowKit

def GvP (x : Mk.Str × Bool) (w : World) (e : Ending) (w' : World) : Prop := e = .returned (.tuple #[.string ⟨x.1.toArray⟩, .bool x.2]) ∧ Below w.heap.size w w'
theorem isEmpty_len (P : List Mk.Str) : P.isEmpty = ((P.length : Int) == 0) := by cases P <;> simp; omega
set_option maxRecDepth 20000 in
set_option maxHeartbeats 4000000 in
theorem given_spec : ∀ (n : Nat) (A : Option Addr) (P : List Mk.Str) (x : Mk.Str) (i c : Nat) (w : World), 1 ≤ n → n ≤ 1099511627776 → i < n → Rd w A (strs P) → P.length ≤ c → c ≤ maxLen →
    Calls Try.prog 65 #[.string ⟨x.toArray⟩, .int .i64 (i : Int), .int .i64 (n : Int), .slice A P.length c] w (GvP (Mk.given x i n P) w) := by
  intro n
  induction n using Nat.strongRecOn with
  | _ n ih =>
    intro A P x i c w h1 hn hi hR hc hm
    unfold maxLen at hm
    by_cases h2 : n < 2
    · obtain rfl : n = 1 := by omega
      rw [Mk.given_one x i 1 P h2, isEmpty_len]
      clear hR ih
      go_enter Try.func65, Try.ntmps65
      go_wp2
      go_ret2
      exact ⟨rfl, Below.refl _ _⟩
    have g1 : ((n : Int) == 1) = false := by rw [beq_eq_false_iff_ne]; omega
    rcases Mk.snoc_cases P with rfl | ⟨Q, q, rfl⟩
    · rw [Mk.given_nil x i n (by omega)]
      clear hR ih
      go_enter Try.func65, Try.ntmps65
      go_wp2
      go_ret2
      exact ⟨rfl, Below.refl _ _⟩
    · have hlen : (Q ++ [q]).length = Q.length + 1 := by simp
      obtain ⟨b, off, hA, hcc0⟩ := hR.str (k := Q.length) (by rw [hlen]; omega)
      subst hA
      have hq : (Q ++ [q])[Q.length]'(by rw [hlen]; omega) = q := by simp
      have hcc : w.cell? ⟨b, off + Q.length, none⟩ = some (.string ⟨q.toArray⟩) := by
        rw [hcc0]; congr 3; exact congrArg List.toArray hq
      clear hcc0
      have hRQ : Rd w (some ⟨b, off, none⟩) (strs Q) := by
        have := rd_take hR Q.length
        rwa [List.take_left] at this
      rw [hlen] at hc ⊢
      have ks := fun W => (split_spec n (by omega) hn W).mono (fun e w' h => And.intro h.1 h.2.symm)
      have hk0 := Mk.split_pos n
      have hk1 := Mk.split_lt (n := n) (by omega)
      have hgl := Mk.given_left x i n Q q (by omega)
      have hgr := Mk.given_right x i n Q q (by omega)
      obtain ⟨k, hk⟩ : ∃ k, Mk.split n = k := ⟨_, rfl⟩
      rw [hk] at ks hk0 hk1 hgl hgr
      obtain ⟨N, hN⟩ : ∃ N, Q.length = N := ⟨_, rfl⟩
      have kL : i < k → ∀ W, Below w.heap.size w W → Calls Try.prog 65 #[.string ⟨x.toArray⟩, .int .i64 (i : Int), .int .i64 (k : Int), .slice (some ⟨b, off, none⟩) N c] W (GvP (Mk.given x i k Q) W) := fun hik W hb => by
        have := ih k hk1 (some ⟨b, off, none⟩) Q x i c W (by omega) (by omega) hik (hRQ.below hb) (by omega) (by unfold maxLen; omega)
        rwa [hN] at this
      have kR : ¬ i < k → ∀ W, Below w.heap.size w W → Calls Try.prog 65 #[.string ⟨x.toArray⟩, .int .i64 ((i - k : Nat) : Int), .int .i64 ((n - k : Nat) : Int), .slice (some ⟨b, off, none⟩) N c] W (GvP (Mk.given x (i - k) (n - k) Q) W) := fun hik W hb => by
        have := ih (n - k) (by omega) (some ⟨b, off, none⟩) Q x (i - k) c W (by omega) (by omega) (by omega) (hRQ.below hb) (by omega) (by unfold maxLen; omega)
        rwa [hN] at this
      rw [hN] at hcc hc ⊢
      have HX := Lib.hid (And.intro hN (And.intro hk (And.intro hR hRQ)))
      clear hR hRQ hN hk ih hq hlen
      have p0 : (((N + 1 : Nat) : Int) == 0) = false := by rw [beq_eq_false_iff_ne]; omega
      have p00 : ((N : Int) + 1 == 0) = false := by rw [beq_eq_false_iff_ne]; omega
      have p1 : IntKind.i64.wrap (N : Int) = (N : Int) := by rw [IntWalk.i64_left, IntWalk.wrap64_in _ (by omega)]
      have p2 : (0 : Int) ≤ (N : Int) := by omega
      have p3 : (N : Int) < (N : Int) + 1 := by omega
      have p4 : (N : Int) ≤ (c : Int) := by omega
      have p5 : (N : Int) + 1 ≤ (c : Int) := by omega
      by_cases hik : i < k
      · have g2 : decide ((i : Int) < (k : Int)) = true := by simp; omega
        have hg := hgl hik
        have k2 := kL hik
        clear hgl hgr kL kR
        rw [hg]
        generalize Mk.given x i k Q = G at k2 ⊢
        obtain ⟨R, ok⟩ := G
        have k3 := fun W => node_spec R q W
        show Calls _ _ _ _ (GvP (Mk.node R q, ok) w)
        generalize Mk.node R q = R2 at k3 ⊢
        go_enter Try.func65, Try.ntmps65
        go_wp2_with fail
        go_quiet (first | (go_at_call 79; with_reducible exact Calls.quiet_of_same (ks _)))
        have b0 : Below w.heap.size w (w.drewN nq) := ((Mod.refl (fun _ => False) w).drewN nq).below (Nat.le_refl _) (fun _ _ h => h)
        go_wp2_with fail
        refine (k2 _ b0).mono ?_
        rintro e w1 ⟨rfl, b1⟩
        go_wp2_with fail
        refine (k3 _).mono ?_
        rintro e w2 ⟨rfl, b2⟩
        have b3 := b0.trans (b1.mono b0.size)
        go_wp2
        go_ret2
        exact ⟨rfl, b3.trans (b2.mono b3.size)⟩
      · have g2 : decide ((i : Int) < (k : Int)) = false := by simp; omega
        have hg := hgr hik
        have k2 := kR hik
        clear hgl hgr kL kR
        rw [hg]
        generalize Mk.given x (i - k) (n - k) Q = G at k2 ⊢
        obtain ⟨R, ok⟩ := G
        have k3 := fun W => node_spec q R W
        show Calls _ _ _ _ (GvP (Mk.node q R, ok) w)
        generalize Mk.node q R = R2 at k3 ⊢
        have j1 : (i : Int) - (k : Int) = ((i - k : Nat) : Int) := by omega
        have j2 : (n : Int) - (k : Int) = ((n - k : Nat) : Int) := by omega
        generalize i - k = i' at k2 j1
        generalize n - k = n' at k2 j2
        go_enter Try.func65, Try.ntmps65
        go_wp2_with fail
        go_quiet (first | (go_at_call 79; with_reducible exact Calls.quiet_of_same (ks _)))
        have b0 : Below w.heap.size w (w.drewN nq) := ((Mod.refl (fun _ => False) w).drewN nq).below (Nat.le_refl _) (fun _ _ h => h)
        go_wp2_with fail
        refine (k2 _ b0).mono ?_
        rintro e w1 ⟨rfl, b1⟩
        go_wp2_with fail
        refine (k3 _).mono ?_
        rintro e w2 ⟨rfl, b2⟩
        have b3 := b0.trans (b1.mono b0.size)
        go_wp2
        go_ret2
        exact ⟨rfl, b3.trans (b2.mono b3.size)⟩
end Go.Proofs.Ytnlpakalcckaiaa
/-
  Included. Conditions: proofs of at most 2^40 elements.
-/
namespace Go.Proofs.Ytnlpakalcckaiaa
set_option linter.unusedVariables false
open Go.RowKit

def incBad (x : Mk.Str) (i n : Int) (P : List Mk.Str) (r : Mk.Str) : Bool := !decide (x.length = 32) || !decide (r.length = 32) || !(decide (P.length ≤ 4096) && vld P) || decide (n < 1) || decide (n > 4096) || decide (i < 0) || decide (i ≥ n)
/-- what Included reports -/
def incB (x : Mk.Str) (i n : Int) (P : List Mk.Str) (r : Mk.Str) : Bool := !incBad x i n P r && ((Mk.given x i.toNat n.toNat P).2 && (Mk.given x i.toNat n.toNat P).1 == r)
theorem incB_bad {x : Mk.Str} {i n : Int} {P : List Mk.Str} {r : Mk.Str} (h : incBad x i n P r = true) : incB x i n P r = false := by unfold incB; rw [h]; rfl
set_option maxRecDepth 20000 in
set_option maxHeartbeats 4000000 in
theorem included_spec (x : Mk.Str) (i n : Int) (A : Option Addr) (P : List Mk.Str) (c : Nat) (r : Mk.Str) (w : World) (hR : Rd w A (strs P)) (hc : P.length ≤ c) (hm : c ≤ maxLen) :
    Calls Try.prog 36 #[.string ⟨x.toArray⟩, .int .i64 i, .int .i64 n, .slice A P.length c, .string ⟨r.toArray⟩] w fun e w' => e = .returned (.bool (incB x i n P r)) ∧ Below w.heap.size w w' := by
  have k1 := digest_spec x
  have k2 := digest_spec r
  have k3 := fun W hb => valid_spec A P c W (hR.below hb) (by unfold maxLen at hm; omega)
  cases d1 : (decide (x.length = 32)) with
  | false =>
    have HB := Lib.hid (incB_bad (i := i) (n := n) (P := P) (x := x) (r := r) (by unfold incBad; simp [d1]))
    simp only [d1] at k1
    clear d1 hR
    go_enter Try.func36, Try.ntmps36
    go_wp2_with (first
      | ((with_reducible refine (k1 _).mono ?_); rintro e w1 ⟨rfl, rfl⟩)
      | ((with_reducible refine (k2 _).mono ?_); rintro e w1 ⟨rfl, rfl⟩)
      | ((with_reducible refine (k3 _ (Below.refl _ _)).mono ?_); rintro e w1 ⟨rfl, rfl⟩)
      | fail)
    go_ret
    exact ⟨by rw [HB.out]; rfl, Below.refl _ _⟩
  | true =>
    cases d2 : (decide (r.length = 32)) with
    | false =>
      have HB := Lib.hid (incB_bad (i := i) (n := n) (P := P) (x := x) (r := r) (by unfold incBad; simp [d2, d1]))
      simp only [d2, d1] at k1 k2
      clear d2 d1 hR
      go_enter Try.func36, Try.ntmps36
      go_wp2_with (first
        | ((with_reducible refine (k1 _).mono ?_); rintro e w1 ⟨rfl, rfl⟩)
        | ((with_reducible refine (k2 _).mono ?_); rintro e w1 ⟨rfl, rfl⟩)
        | ((with_reducible refine (k3 _ (Below.refl _ _)).mono ?_); rintro e w1 ⟨rfl, rfl⟩)
        | fail)
      go_ret
      exact ⟨by rw [HB.out]; rfl, Below.refl _ _⟩
    | true =>
      cases d3 : (decide (P.length ≤ 4096) && vld P) with
      | false =>
        have HB := Lib.hid (incB_bad (i := i) (n := n) (P := P) (x := x) (r := r) (by unfold incBad; simp [d3, d1, d2]))
        simp only [d3, d1, d2] at k1 k2 k3
        clear d3 d1 d2 hR
        go_enter Try.func36, Try.ntmps36
        go_wp2_with (first
          | ((with_reducible refine (k1 _).mono ?_); rintro e w1 ⟨rfl, rfl⟩)
          | ((with_reducible refine (k2 _).mono ?_); rintro e w1 ⟨rfl, rfl⟩)
          | ((with_reducible refine (k3 _ (Below.refl _ _)).mono ?_); rintro e w1 ⟨rfl, rfl⟩)
          | fail)
        go_ret
        exact ⟨by rw [HB.out]; rfl, Below.refl _ _⟩
      | true =>
        by_cases c0 : n < 1
        · have g0 : decide (n < 1) = true := decide_eq_true c0
          have HB := Lib.hid (incB_bad (i := i) (n := n) (P := P) (x := x) (r := r) (by unfold incBad; simp [c0]))
          simp only [d1, d2, d3] at k1 k2 k3
          clear d1 d2 d3 hR c0
          go_enter Try.func36, Try.ntmps36
          go_wp2_with (first
            | ((with_reducible refine (k1 _).mono ?_); rintro e w1 ⟨rfl, rfl⟩)
            | ((with_reducible refine (k2 _).mono ?_); rintro e w1 ⟨rfl, rfl⟩)
            | ((with_reducible refine (k3 _ (Below.refl _ _)).mono ?_); rintro e w1 ⟨rfl, rfl⟩)
            | fail)
          go_ret
          exact ⟨by rw [HB.out]; rfl, Below.refl _ _⟩
        have g0 : decide (n < 1) = false := decide_eq_false c0
        by_cases c1 : n > 4096
        · have g1 : decide (n > 4096) = true := decide_eq_true c1
          have HB := Lib.hid (incB_bad (i := i) (n := n) (P := P) (x := x) (r := r) (by unfold incBad; simp [c1]))
          simp only [d1, d2, d3] at k1 k2 k3
          clear d1 d2 d3 hR c1 c0
          go_enter Try.func36, Try.ntmps36
          go_wp2_with (first
            | ((with_reducible refine (k1 _).mono ?_); rintro e w1 ⟨rfl, rfl⟩)
            | ((with_reducible refine (k2 _).mono ?_); rintro e w1 ⟨rfl, rfl⟩)
            | ((with_reducible refine (k3 _ (Below.refl _ _)).mono ?_); rintro e w1 ⟨rfl, rfl⟩)
            | fail)
          go_ret
          exact ⟨by rw [HB.out]; rfl, Below.refl _ _⟩
        have g1 : decide (n > 4096) = false := decide_eq_false c1
        by_cases c2 : i < 0
        · have g2 : decide (i < 0) = true := decide_eq_true c2
          have HB := Lib.hid (incB_bad (i := i) (n := n) (P := P) (x := x) (r := r) (by unfold incBad; simp [c2]))
          simp only [d1, d2, d3] at k1 k2 k3
          clear d1 d2 d3 hR c2 c0 c1
          go_enter Try.func36, Try.ntmps36
          go_wp2_with (first
            | ((with_reducible refine (k1 _).mono ?_); rintro e w1 ⟨rfl, rfl⟩)
            | ((with_reducible refine (k2 _).mono ?_); rintro e w1 ⟨rfl, rfl⟩)
            | ((with_reducible refine (k3 _ (Below.refl _ _)).mono ?_); rintro e w1 ⟨rfl, rfl⟩)
            | fail)
          go_ret
          exact ⟨by rw [HB.out]; rfl, Below.refl _ _⟩
        have g2 : decide (i < 0) = false := decide_eq_false c2
        by_cases c3 : i ≥ n
        · have g3 : decide (i ≥ n) = true := decide_eq_true c3
          have HB := Lib.hid (incB_bad (i := i) (n := n) (P := P) (x := x) (r := r) (by unfold incBad; simp [c3]))
          simp only [d1, d2, d3] at k1 k2 k3
          clear d1 d2 d3 hR c3 c0 c1 c2
          go_enter Try.func36, Try.ntmps36
          go_wp2_with (first
            | ((with_reducible refine (k1 _).mono ?_); rintro e w1 ⟨rfl, rfl⟩)
            | ((with_reducible refine (k2 _).mono ?_); rintro e w1 ⟨rfl, rfl⟩)
            | ((with_reducible refine (k3 _ (Below.refl _ _)).mono ?_); rintro e w1 ⟨rfl, rfl⟩)
            | fail)
          go_ret
          exact ⟨by rw [HB.out]; rfl, Below.refl _ _⟩
        have g3 : decide (i ≥ n) = false := decide_eq_false c3
        obtain ⟨a, rfl⟩ : ∃ a : Nat, i = a := ⟨i.toNat, by omega⟩
        obtain ⟨b, rfl⟩ : ∃ b : Nat, n = b := ⟨n.toNat, by omega⟩
        have hib : incB x a b P r = ((Mk.given x a b P).2 && (Mk.given x a b P).1 == r) := by
          have hz : incBad x a b P r = false := by unfold incBad; simp [d1, d2, d3]; omega
          unfold incB
          rw [hz]
          rfl
        have k4 := fun W hb => given_spec b A P x a c W (by omega) (by omega) (by omega) (hR.below hb) hc hm
        rw [hib]
        generalize Mk.given x a b P = G at k4 ⊢
        obtain ⟨R, ok⟩ := G
        simp only [d1, d2, d3] at k1 k2 k3
        have q0 : (1 : Int) ≤ (b : Int) := by omega
        have q1 : (b : Int) ≤ 4096 := by omega
        have q2 : (a : Int) < (b : Int) := by omega
        have q3 : decide ((a : Int) < 0) = false := by rw [decide_eq_false_iff_not]; omega
        have q4 : decide ((b : Int) ≤ (a : Int)) = false := by rw [decide_eq_false_iff_not]; omega
        have q5 : decide ((b : Int) < 1) = false := by rw [decide_eq_false_iff_not]; omega
        have q6 : decide ((4096 : Int) < (b : Int)) = false := by rw [decide_eq_false_iff_not]; omega
        clear d1 d2 d3 hR c0 c1 c2 c3 hib
        go_enter Try.func36, Try.ntmps36
        go_wp2_with (first
          | ((with_reducible refine (k1 _).mono ?_); rintro e w1 ⟨rfl, rfl⟩)
          | ((with_reducible refine (k2 _).mono ?_); rintro e w1 ⟨rfl, rfl⟩)
          | ((with_reducible refine (k3 _ (Below.refl _ _)).mono ?_); rintro e w1 ⟨rfl, rfl⟩)
          | fail)
        refine (k4 _ (Below.refl _ _)).mono ?_
        rintro e w4 ⟨rfl, b4⟩
        cases ok
        · go_wp2
          go_ret
          exact ⟨rfl, b4⟩
        · go_wp2
          go_ret
          exact ⟨rfl, b4⟩
end Go.Proofs.Ytnlpakalcckaiaa
/-
  Consistency proofs verified. Conditions: at most 2^40 leaves.
-/
namespace Go.Proofs.Ytnlpakalcckaiaa
set_option linter.unusedVariables false
open Go.RowKit

def RpP (x : (Mk.Str × Mk.Str) × Bool) (w : World) (e : Ending) (w' : World) : Prop := e = .returned (.tuple #[.agg #[.string ⟨x.1.1.toArray⟩, .string ⟨x.1.2.toArray⟩], .bool x.2]) ∧ Below w.heap.size w w'
end Go.Proofs.Ytnlpakalcckaiaa
/-
  Extends. Conditions: proofs of at most 2^40 elements.
-/
namespace Go.Proofs.Ytnlpakalcckaiaa
set_option linter.unusedVariables false
open Go.RowKit

def extBad (m n : Int) (o r : Mk.Str) (P : List Mk.Str) : Bool := !decide (o.length = 32) || !decide (r.length = 32) || !(decide (P.length ≤ 4096) && vld P) || decide (m < 0) || decide (m > n) || decide (n > 4096)
/-- what Extends reports -/
def extB (m n : Int) (o r : Mk.Str) (P : List Mk.Str) : Bool := !extBad m n o r P && (if m = 0 then P.isEmpty && (o == Sh.sha []) && (decide (n > 0) || (r == Sh.sha [])) else (Mk.rd m.toNat n.toNat o P).2 && ((Mk.rd m.toNat n.toNat o P).1.1 == o && (Mk.rd m.toNat n.toNat o P).1.2 == r))
theorem extB_bad {m n : Int} {o r : Mk.Str} {P : List Mk.Str} (h : extBad m n o r P = true) : extB m n o r P = false := by unfold extB; rw [h]; rfl
end Go.Proofs.Ytnlpakalcckaiaa
/-
  The leaf hashes of strings, the sizes of lists, and what is the same. Conditions: sizes below 2^30.
-/
namespace Go.Proofs.Ytnlpakalcckaiaa
set_option linter.unusedVariables false
open Go.RowKit

def fewB (L : List Mk.Str) : Bool := decide (L.length ≤ 70) && decide ((L.map List.length).sum ≤ 20000)
set_option maxRecDepth 20000 in
set_option maxHeartbeats 1000000 in
theorem samestr_spec (A B : Option Addr) (L M : List Mk.Str) (c d : Nat) (w : World) (hA : Rd w A (strs L)) (hB : Rd w B (strs M)) (hl : L.length ≤ 9223372036854775807) (hm : M.length ≤ 9223372036854775807) :
    Calls Try.prog 42 #[.slice A L.length c, .slice B M.length d] w fun e w' => e = .returned (.bool (decide (L = M))) ∧ ∃ k, w' = w.drewN k := by
  by_cases hlen : L.length = M.length
  · have hne : ((L.length : Int) != (M.length : Int)) = false := by simp [hlen]
    go_enter Try.func42, Try.ntmps42
    have HL := Lib.hid hlen; clear hlen
    go_wp2
    go_loopw [5] (fun i wr => ∃ k : Nat, k ≤ L.length ∧ i = .int .i64 k ∧ L.take k = M.take k ∧ ∃ q, wr = w.drewN q) (fun i _ => L.length - (intOf i).toNat)
    case atStart => exact ⟨0, Nat.zero_le _, rfl, rfl, 0, rfl⟩
    case round =>
      obtain ⟨k, hk, rfl, htk, q, rfl⟩ := hrel
      have HT := Lib.hid htk; clear htk
      by_cases hlt : k < L.length
      · have hltM : k < M.length := by have := HL.out; omega
        obtain ⟨b, off, rfl, hc⟩ := hA.str hlt
        obtain ⟨b', off', rfl, hc'⟩ := hB.str hltM
        have hi0 : (0 : Int) ≤ (k : Int) := by omega
        have hi1 : (k : Int) < (L.length : Int) := by omega
        have hi2 : (k : Int) < (M.length : Int) := by omega
        by_cases he : L[k] = M[k]
        · have he1 : (L[k] != M[k]) = false := by simp [he]
          have he2 : (L[k] == M[k]) = true := by simp [he]
          have HE := Lib.hid he; clear he hA hB
          go_wp2
          go_quiet (fail)
          go_wp2
          go_roundw
          case rel => exact ⟨k + 1, by omega, by go_num, by rw [List.take_succ_eq_append_getElem hlt, List.take_succ_eq_append_getElem hltM, HT.out, HE.out], _, rfl⟩
          case measure => simp [intOf]; omega
        · have he1 : (L[k] != M[k]) = true := by simp [he]
          have he2 : (L[k] == M[k]) = false := by simp [he]
          have HE := Lib.hid he; clear he hA hB
          go_wp2
          go_quiet (fail)
          go_wp2
          go_ret
          have hf : decide (L = M) = false := by
            simp only [decide_eq_false_iff_not]
            intro h
            subst h
            exact HE.out rfl
          exact ⟨ret_eq (congrArg Value.bool hf.symm), _, drewN_drewN _ _ _⟩
      · obtain rfl : k = L.length := by omega
        go_wp2
        go_ret
        have : L = M := by
          have h1 := HT.out
          rw [List.take_of_length_le (Nat.le_refl _), HL.out, List.take_of_length_le (Nat.le_refl _)] at h1
          exact h1
        exact ⟨ret_eq (congrArg Value.bool (by simp [this])), _, rfl⟩
  · have hne : ((L.length : Int) != (M.length : Int)) = true := by simp; omega
    have hf : decide (L = M) = false := by simp; intro h; exact hlen (by rw [h])
    rw [hf]
    clear hlen hf
    go_enter Try.func42, Try.ntmps42
    go_wp2
    go_ret
    exact ⟨rfl, 0, rfl⟩
def SlR (M : List Mk.Str) (w : World) (e : Ending) (w' : World) : Prop := ∃ A c, e = .returned (.slice A M.length c) ∧ M.length ≤ c ∧ c ≤ maxLen ∧ St w.heap.size w w' [ownR 9 1 (.slice A M.length c) M.length (strs M)]
end Go.Proofs.Ytnlpakalcckaiaa
/-
  What a verifier answers at proofs that are made, and at others: plain laws. Conditions: at most 4096 leaves.
-/
namespace Go.Proofs.Ytnlpakalcckaiaa
set_option linter.unusedVariables false
open Go.RowKit

theorem vld_of {L : List Mk.Str} (h : Mk.AllD L) : vld L = true := (vld_iff L).2 h
theorem okL {L : List Mk.Str} (h : Mk.AllD L) (hl : L.length ≤ 4096) : (decide (L.length ≤ 4096) && vld L) = true := by rw [vld_of h, decide_eq_true hl]; rfl
theorem mRoot_ok {L : List Mk.Str} (h : Mk.AllD L) (hl : L.length ≤ 4096) : mRoot L = Mk.root L := by unfold mRoot; rw [if_pos (okL h hl)]
theorem mInc_ok {L : List Mk.Str} (h : Mk.AllD L) (hl : L.length ≤ 4096) (i : Nat) (hi : i < L.length) : mInc L i = (Mk.incl L i, 0) := by
  unfold mInc
  rw [if_pos (okL h hl), if_neg (by omega)]
  rfl
theorem mCon_ok {L : List Mk.Str} (h : Mk.AllD L) (hl : L.length ≤ 4096) (m : Nat) (h1 : 1 ≤ m) (hm : m ≤ L.length) : mCon L m = (Mk.cons L m true, 0) := by
  unfold mCon
  rw [if_pos (okL h hl), if_neg (by omega), if_neg (by omega)]
  rfl
theorem mCon_zero {L : List Mk.Str} (h : Mk.AllD L) (hl : L.length ≤ 4096) : mCon L 0 = ([], 0) := by
  unfold mCon
  rw [if_pos (okL h hl), if_neg (by omega), if_pos rfl]
theorem leaf_dig (L : List Mk.Str) : Mk.AllD (L.map Mk.leaf) := fun x hx => by
  obtain ⟨y, _, rfl⟩ := List.mem_map.1 hx
  exact Sh.sha_length _
theorem incB_ok {L : List Mk.Str} (h : Mk.AllD L) (hl : L.length ≤ 4096) (i : Nat) (hi : i < L.length) : incB L[i] i L.length (Mk.incl L i) (Mk.root L) = true := by
  have hg := Mk.given_incl L.length L i rfl hi
  have hgd : L.getD i [] = L[i] := by simp [List.getD_eq_getElem?_getD, hi]
  rw [hgd] at hg
  have h1 : L[i].length = 32 := h _ (List.getElem_mem hi)
  have h2 := Mk.rootD h
  have h3 := Mk.incl_length L.length L i rfl
  have h4 := Mk.depth_le i L.length
  have h5 := okL (Mk.incl_dig L.length L i (Nat.le_refl _) h) (by omega)
  have hb : incBad L[i] i L.length (Mk.incl L i) (Mk.root L) = false := by
    unfold incBad
    rw [h1, h2, h5]
    simp
    omega
  unfold incB
  rw [hb, Int.toNat_natCast, Int.toNat_natCast, hg]
  simp
theorem incB_len (x r : Mk.Str) (P : List Mk.Str) (i n : Nat) (hP : P.length ≠ Mk.depth i n) : incB x i n P r = false := by
  unfold incB
  rw [Int.toNat_natCast, Int.toNat_natCast, Mk.given_ok, decide_eq_false hP]
  simp
theorem incB_out (x r : Mk.Str) (P : List Mk.Str) (i n : Int) (h : i < 0 ∨ n ≤ i) : incB x i n P r = false := by
  refine incB_bad ?_
  unfold incBad
  rcases h with h | h
  · rw [decide_eq_true h]; simp
  · rw [decide_eq_true (show i ≥ n from h)]; simp
theorem cdepth_le (m n : Nat) (b : Bool) (h1 : 1 ≤ n) : Mk.cdepth m n b ≤ n := by
  induction n using Nat.strongRecOn generalizing m b with
  | _ n ih =>
    by_cases h : m = n
    · subst h; rw [Mk.cdepth_same]; split <;> omega
    · by_cases h2 : 2 ≤ n
      · have k0 := Mk.split_pos n
        have k1 := Mk.split_lt h2
        by_cases hi : m ≤ Mk.split n
        · rw [Mk.cdepth_left m n b h2 h hi]; have := ih (Mk.split n) k1 m b (by omega); omega
        · rw [Mk.cdepth_right m n b h2 h hi]; have := ih (n - Mk.split n) (by omega) (m - Mk.split n) false (by omega); omega
      · rw [Mk.cdepth, if_neg h, dif_pos (by omega)]; omega
theorem extB_ok {L : List Mk.Str} (h : Mk.AllD L) (hl : L.length ≤ 4096) (m : Nat) (h1 : 1 ≤ m) (hm : m ≤ L.length) : extB m L.length (Mk.root (L.take m)) (Mk.root L) (Mk.cons L m true) = true := by
  have hr := Mk.rd_cons L.length L m true rfl h h1 hm
  rw [if_pos rfl] at hr
  have h2 := Mk.rootD (h.take m)
  have h3 := Mk.rootD h
  have h4 := Mk.cons_length L.length L m true rfl h1 hm
  have h5 := cdepth_le m L.length true (by omega)
  have h6 := okL (Mk.cons_dig L.length L m true (Nat.le_refl _) h) (by omega)
  have hb : extBad m L.length (Mk.root (L.take m)) (Mk.root L) (Mk.cons L m true) = false := by
    unfold extBad
    rw [h2, h3, h6]
    simp
    omega
  unfold extB
  rw [hb, if_neg (by omega), Int.toNat_natCast, Int.toNat_natCast, hr]
  simp
theorem extB_zero {L : List Mk.Str} (h : Mk.AllD L) (hl : L.length ≤ 4096) : extB 0 L.length (Sh.sha []) (Mk.root L) [] = true := by
  have h3 := Mk.rootD h
  have h2 : (Sh.sha []).length = 32 := Sh.sha_length _
  have hb : extBad 0 L.length (Sh.sha []) (Mk.root L) [] = false := by
    unfold extBad
    rw [h2, h3, okL Mk.AllD.nil (by decide)]
    simp
    omega
  unfold extB
  rw [hb, if_pos rfl]
  by_cases h0 : L.length = 0
  · obtain rfl := List.eq_nil_of_length_eq_zero h0
    rw [Mk.root_nil]
    simp
  · have : decide ((L.length : Int) > 0) = true := by simp; omega
    rw [this]
    simp
theorem extB_len (o r : Mk.Str) (P : List Mk.Str) (m n : Nat) (h1 : 1 ≤ m) (hm : m ≤ n) (hP : P.length ≠ Mk.cdepth m n true) : extB m n o r P = false := by
  by_cases ho : o = []
  · subst ho
    exact extB_bad (by unfold extBad; simp)
  · have hr := Mk.rd_ok n m o P h1 hm
    have hd : decide (o ≠ []) = true := decide_eq_true ho
    rw [hd, decide_eq_false hP] at hr
    unfold extB
    rw [if_neg (by omega), Int.toNat_natCast, Int.toNat_natCast, hr]
    simp
theorem extB_zero_len (o r : Mk.Str) (P : List Mk.Str) (n : Int) (hP : P ≠ []) : extB 0 n o r P = false := by
  unfold extB
  rw [if_pos rfl]
  have : P.isEmpty = false := by cases P; exact absurd rfl hP; rfl
  rw [this]
  simp
theorem extB_order (o r : Mk.Str) (P : List Mk.Str) (m n : Int) (h : m > n) : extB m n o r P = false := by
  refine extB_bad ?_
  unfold extBad
  rw [decide_eq_true h]
  simp
/-- the rest of a list, as the model says it -/
theorem rd_cut {w : World} {g c : Nat} {P : List Mk.Str} (h : Rd w (some ⟨g, 0, none⟩) (strs P)) (hc : P.length ≤ c) : Rd w (if c = 1 then some ⟨g, 0, none⟩ else some ⟨g, 1, none⟩) (strs (P.drop 1)) := by
  by_cases h1 : c = 1
  · have : P.drop 1 = [] := List.drop_eq_nil_of_le (by omega)
    rw [this]
    exact Rd.nil _ _
  · rw [if_neg h1]
    have := rd_drop h 1
    exact this
theorem tmod_nat (a n : Nat) : (a : Int).tmod (n : Int) = ((a % n : Nat) : Int) := by rw [Int.tmod_eq_emod_of_nonneg (by omega)]; rfl
end Go.Proofs.Ytnlpakalcckaiaa
