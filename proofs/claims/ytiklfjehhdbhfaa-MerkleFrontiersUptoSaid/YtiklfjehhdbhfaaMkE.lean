/-
  valid lists of leaf hashes. Conditions: none.
-/
import Derived.Test.YtiklfjehhdbhfaaMkD
namespace Go.Proofs.Ytiklfjehhdbhfaa
set_option linter.unusedVariables false
open Go.RowKit

def vld (L : List Mk.Str) : Bool := L.all fun s => decide (s.length = 32)
theorem undig_spec (s : Mk.Str) (w : World) : Calls Try.prog 55 #[.string ⟨s.toArray⟩] w fun e w' => e = .returned (.bool (!decide (s.length = 32))) ∧ w = w' := by
  have k := digest_spec s
  go_enter Try.func55, Try.ntmps55
  cases hd : decide (s.length = 32) with
  | true =>
    rw [hd] at k
    clear hd
    go_wp2_with fail
    refine (k _).mono ?_
    rintro e w' ⟨rfl, rfl⟩
    go_wp2
    go_ret
    exact ⟨rfl, rfl⟩
  | false =>
    rw [hd] at k
    clear hd
    go_wp2_with fail
    refine (k _).mono ?_
    rintro e w' ⟨rfl, rfl⟩
    go_wp2
    go_ret
    exact ⟨rfl, rfl⟩
theorem vld_take (L : List Mk.Str) (k : Nat) (h : k < L.length) : vld (L.take (k + 1)) = (vld (L.take k) && decide (L[k].length = 32)) := by
  unfold vld
  rw [List.take_succ_eq_append_getElem h, List.all_append]
  simp
theorem vld_bad (L : List Mk.Str) (k : Nat) (h : k < L.length) (hb : ¬ L[k].length = 32) : vld L = false := by
  unfold vld
  rw [List.all_eq_false]
  exact ⟨L[k], List.getElem_mem h, by simpa using hb⟩
theorem vld_iff (L : List Mk.Str) : vld L = true ↔ Mk.AllD L := by
  unfold vld Mk.AllD
  simp
def IxP (q : Bool) (w : World) (e : Ending) (w' : World) : Prop := ∃ j : Int, e = .returned (.int .i64 j) ∧ w = w' ∧ (decide (j ≥ 0) = !q)
set_option maxRecDepth 20000 in
theorem index_func (f : Nat) (he : ∀ args w, (callFunc f args).run Try.prog w = .ok (.enter f args) w) (kf : ∀ (s : Mk.Str) (w : World), Calls Try.prog f #[.string ⟨s.toArray⟩] w fun e w' => e = .returned (.bool (!decide (s.length = 32))) ∧ w = w') (A : Option Addr) (L : List Mk.Str) (c : Nat) (w : World) (hR : Rd w A (strs L)) (hl : L.length ≤ 9223372036854775807) :
    Calls Try.prog 66 #[.slice A L.length c, .func (.func f) #[] #[]] w (IxP (vld L) w) := by
  have HR := Lib.hid hR
  clear hR
  go_enter Try.func66, Try.ntmps66
  go_wp2
  go_loop [8] (fun i => ∃ k : Nat, k ≤ L.length ∧ i = .int .i64 k ∧ vld (L.take k) = true) (fun i => L.length - (intOf i).toNat)
  case atStart => exact ⟨0, Nat.zero_le _, rfl, rfl⟩
  case round =>
    obtain ⟨k, hk, rfl, hv⟩ := hrel
    by_cases hlt : k < L.length
    · obtain ⟨b, off, hA, hcc⟩ := HR.out.str hlt
      subst hA
      have hk1 : (k : Int) < (L.length : Int) := by omega
      have hk0 : (0 : Int) ≤ (k : Int) := by omega
      have k1 := kf L[k]
      have hst := vld_take L k hlt
      rw [hv] at hst
      by_cases h32 : L[k].length = 32
      · rw [decide_eq_true h32] at k1 hst
        have HS := Lib.hid hst
        generalize L[k] = x at hcc k1
        clear hst hv h32
        go_wp2_with fail
        refine (k1 _).mono ?_
        rintro e w' ⟨rfl, rfl⟩
        go_wp2
        go_round
        case rel => exact ⟨k + 1, by omega, by go_num, HS.out⟩
        case measure => simp [intOf]; omega
      · have hb := vld_bad L k hlt h32
        rw [decide_eq_false h32] at k1
        have HS := Lib.hid hb
        generalize L[k] = x at hcc k1
        clear hst hv h32 hb
        go_wp2_with fail
        refine (k1 _).mono ?_
        rintro e w' ⟨rfl, rfl⟩
        go_wp2
        go_ret
        refine ⟨(k : Int), rfl, rfl, ?_⟩
        rw [HS.out]
        simp
    · obtain rfl : k = L.length := by omega
      rw [List.take_length] at hv
      have HS := Lib.hid hv
      clear hv
      have hge : decide ((L.length : Int) < (L.length : Int)) = false := by simp
      go_wp2
      go_ret
      refine ⟨-1, rfl, rfl, ?_⟩
      rw [HS.out]
      rfl
theorem contains_func (f : Nat) (he : ∀ args w, (callFunc f args).run Try.prog w = .ok (.enter f args) w) (kf : ∀ (s : Mk.Str) (w : World), Calls Try.prog f #[.string ⟨s.toArray⟩] w fun e w' => e = .returned (.bool (!decide (s.length = 32))) ∧ w = w') (A : Option Addr) (L : List Mk.Str) (c : Nat) (w : World) (hR : Rd w A (strs L)) (hl : L.length ≤ 9223372036854775807) :
    Calls Try.prog 54 #[.slice A L.length c, .func (.func f) #[] #[]] w fun e w' => e = .returned (.bool (!vld L)) ∧ w = w' := by
  have k := index_func f he kf A L c w hR hl
  generalize vld L = q at k ⊢
  go_enter Try.func54, Try.ntmps54
  go_wp2_with fail
  refine k.mono ?_
  rintro e w' ⟨j, rfl, rfl, hj⟩
  have HJ := Lib.hid hj
  clear hj k
  go_wp2
  go_ret
  exact ⟨by rw [← HJ.out]; rfl, rfl⟩
theorem valid_spec (A : Option Addr) (L : List Mk.Str) (c : Nat) (w : World) (hR : Rd w A (strs L)) (hl : L.length ≤ 9223372036854775807) :
    Calls Try.prog 33 #[.slice A L.length c] w fun e w' => e = .returned (.bool (decide (L.length ≤ 4096) && vld L)) ∧ w = w' := by
  by_cases h : L.length ≤ 4096
  · have g1 : decide ((L.length : Int) ≤ 4096) = true := by simp; omega
    have k := contains_func 55 (enters_of Try.func55 (by kernel_rfl) rfl) undig_spec A L c w hR hl
    rw [decide_eq_true h, Bool.true_and]
    generalize vld L = q at k ⊢
    go_enter Try.func33, Try.ntmps33
    go_wp2_with fail
    refine k.mono ?_
    rintro e w' ⟨rfl, rfl⟩
    cases q
    · go_wp2
      go_ret
      exact ⟨rfl, rfl⟩
    · go_wp2
      go_ret
      exact ⟨rfl, rfl⟩
  · have g1 : decide ((L.length : Int) ≤ 4096) = false := by simp; omega
    rw [decide_eq_false h, Bool.false_and]
    go_enter Try.func33, Try.ntmps33
    go_wp2
    go_ret
    exact ⟨rfl, rfl⟩
set_option maxRecDepth 20000 in
theorem digests_spec (A : Option Addr) (L : List Mk.Str) (c : Nat) (w : World) (hR : Rd w A (strs L)) (hl : L.length ≤ 9223372036854775807) :
    Calls Try.prog 57 #[.slice A L.length c] w fun e w' => e = .returned (.bool (vld L)) ∧ w = w' := by
  have HR := Lib.hid hR
  clear hR
  go_enter Try.func57, Try.ntmps57
  go_wp2
  go_loop [3] (fun i => ∃ k : Nat, k ≤ L.length ∧ i = .int .i64 k ∧ vld (L.take k) = true) (fun i => L.length - (intOf i).toNat)
  case atStart => exact ⟨0, Nat.zero_le _, rfl, rfl⟩
  case round =>
    obtain ⟨k, hk, rfl, hv⟩ := hrel
    by_cases hlt : k < L.length
    · obtain ⟨b, off, hA, hcc⟩ := HR.out.str hlt
      subst hA
      have hk1 : (k : Int) < (L.length : Int) := by omega
      have hk0 : (0 : Int) ≤ (k : Int) := by omega
      have k1 := rdigest_spec L[k]
      have hst := vld_take L k hlt
      rw [hv] at hst
      by_cases h32 : L[k].length = 32
      · rw [decide_eq_true h32] at k1 hst
        have HS := Lib.hid hst
        generalize L[k] = x at hcc k1
        clear hst hv h32
        go_wp2_with fail
        refine (k1 _).mono ?_
        rintro e w' ⟨rfl, rfl⟩
        go_wp2
        go_round
        case rel => exact ⟨k + 1, by omega, by go_num, HS.out⟩
        case measure => simp [intOf]; omega
      · have hb := vld_bad L k hlt h32
        rw [decide_eq_false h32] at k1
        have HS := Lib.hid hb
        generalize L[k] = x at hcc k1
        clear hst hv h32 hb
        go_wp2_with fail
        refine (k1 _).mono ?_
        rintro e w' ⟨rfl, rfl⟩
        go_wp2
        go_ret
        refine ⟨?_, rfl⟩
        rw [HS.out]
        rfl
    · obtain rfl : k = L.length := by omega
      rw [List.take_length] at hv
      have HS := Lib.hid hv
      clear hv
      have hge : decide ((L.length : Int) < (L.length : Int)) = false := by simp
      go_wp2
      go_ret
      refine ⟨?_, rfl⟩
      rw [HS.out]
      rfl
theorem rvalid_spec (A : Option Addr) (L : List Mk.Str) (c : Nat) (w : World) (hR : Rd w A (strs L)) (hl : L.length ≤ 9223372036854775807) :
    Calls Try.prog 35 #[.slice A L.length c] w fun e w' => e = .returned (.bool (decide (L.length ≤ 4096) && vld L)) ∧ w = w' := by
  by_cases h : L.length ≤ 4096
  · have g1 : decide ((L.length : Int) ≤ 4096) = true := by simp; omega
    have k := digests_spec A L c w hR hl
    rw [decide_eq_true h, Bool.true_and]
    generalize vld L = q at k ⊢
    go_enter Try.func35, Try.ntmps35
    go_wp2_with fail
    refine k.mono ?_
    rintro e w' ⟨rfl, rfl⟩
    go_wp2
    go_ret
    exact ⟨rfl, rfl⟩
  · have g1 : decide ((L.length : Int) ≤ 4096) = false := by simp; omega
    rw [decide_eq_false h, Bool.false_and]
    go_enter Try.func35, Try.ntmps35
    go_wp2
    go_ret
    exact ⟨rfl, rfl⟩
end Go.Proofs.Ytiklfjehhdbhfaa
