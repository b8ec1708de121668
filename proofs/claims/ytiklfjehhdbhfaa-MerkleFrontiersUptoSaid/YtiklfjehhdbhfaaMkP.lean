/-
  The leaf hashes of strings, the sizes of lists, and what is the same. Conditions: sizes below 2^30.
-/
import Derived.Test.YtiklfjehhdbhfaaMkO
namespace Go.Proofs.Ytiklfjehhdbhfaa
set_option linter.unusedVariables false
open Go.RowKit

def fewB (L : List Mk.Str) : Bool := decide (L.length ≤ 70) && decide ((L.map List.length).sum ≤ 20000)
set_option maxRecDepth 20000 in
set_option maxHeartbeats 1000000 in
theorem mfew_spec (A : Option Addr) (L : List Mk.Str) (c : Nat) (w : World) (hR : Rd w A (strs L)) (hb : weight L ≤ 9223372036854775807) :
    Calls Try.prog 10 #[.slice A L.length c] w fun e w' => e = .returned (.bool (fewB L)) ∧ w = w' := by
  have hL63 : L.length ≤ 9223372036854775807 := by unfold weight at hb; omega
  go_enter Try.func10, Try.ntmps10
  go_wp2
  go_loop [3, 4] (fun n i => ∃ k : Nat, k ≤ L.length ∧ i = .int .i64 k ∧ n = .int .i64 ((((L.take k).map List.length).sum : Nat) : Int)) (fun _ i => L.length - (intOf i).toNat)
  case atStart => exact ⟨0, Nat.zero_le _, rfl, by simp⟩
  case round =>
    obtain ⟨k, hk, rfl, rfl⟩ := hrel
    by_cases hlt : k < L.length
    · obtain ⟨b, off, rfl, hc⟩ := hR.str hlt
      have ht := weight_take L k hlt
      have hle := weight_take_le L (k + 1)
      have hb1 : ((L.take k).map List.length).sum + L[k].length ≤ 9223372036854775807 := by unfold weight at hb; omega
      obtain ⟨m, hm⟩ : ∃ m, ((L.take k).map List.length).sum = m := ⟨_, rfl⟩
      rw [hm] at hb1 ht
      rw [hm]
      have HT := Lib.hid ht; have HM := Lib.hid hm
      clear ht hm hle hb
      go_wp2
      go_round
      case rel => exact ⟨k + 1, by omega, by go_num, by rw [HT.out]; go_num⟩
      case measure => simp [intOf]; omega
    · obtain rfl : k = L.length := by omega
      rw [List.take_length]
      obtain ⟨m, hm⟩ : ∃ m, (L.map List.length).sum = m := ⟨_, rfl⟩
      rw [hm]
      have HM := Lib.hid hm
      have hf : fewB L = (decide (L.length ≤ 70) && decide (m ≤ 20000)) := by unfold fewB; rw [hm]
      have HR := Lib.hid hR
      have HF := Lib.hid hf
      clear hm hf hb hR
      have hlt2 : decide ((L.length : Int) < (L.length : Int)) = false := by simp
      have g2 : decide ((m : Int) ≤ 20000) = decide (m ≤ 20000) := decide_eq_decide.2 (by omega)
      have G2 := Lib.hid g2
      clear g2
      by_cases h7 : L.length ≤ 70
      · have g1 : decide ((L.length : Int) ≤ 70) = true := by simp; omega
        have g3 : decide (L.length ≤ 70) = true := by simp; omega
        go_wp2
        go_ret
        exact ⟨by rw [HF.out, g3, ← G2.out]; rfl, rfl⟩
      · have g1 : decide ((L.length : Int) ≤ 70) = false := by simp; omega
        have g3 : decide (L.length ≤ 70) = false := by simp; omega
        go_wp2
        go_ret
        exact ⟨by rw [HF.out, g3]; rfl, rfl⟩
set_option maxRecDepth 20000 in
set_option maxHeartbeats 1000000 in
theorem samestr_spec (A B : Option Addr) (L M : List Mk.Str) (c d : Nat) (w : World) (hA : Rd w A (strs L)) (hB : Rd w B (strs M)) (hl : L.length ≤ 9223372036854775807) (hm : M.length ≤ 9223372036854775807) :
    Calls Try.prog 48 #[.slice A L.length c, .slice B M.length d] w fun e w' => e = .returned (.bool (decide (L = M))) ∧ ∃ k, w' = w.drewN k := by
  by_cases hlen : L.length = M.length
  · have hne : ((L.length : Int) != (M.length : Int)) = false := by simp [hlen]
    go_enter Try.func48, Try.ntmps48
    have HL := Lib.hid hlen; clear hlen
    go_wp2
    go_loopw [5] (fun i wr => ∃ k : Nat, k ≤ L.length ∧ i = .int .i64 k ∧ L.take k = M.take k ∧ ∃ q, wr = w.drewN q) (fun i _ => L.length - (intOf i).toNat)
    case atStart => exact ⟨0, Nat.zero_le _, rfl, rfl, 0, rfl⟩
    case round =>
      obtain ⟨k, hk, rfl, htk, q, rfl⟩ := hrel
      have HT := Lib.hid htk; clear htk
      by_cases hlt : k < L.length
      · have hltM : k < M.length := by have := HL.out; omega
        obtain ⟨b, off, rfl, hc⟩ := hA.str hlt
        obtain ⟨b', off', rfl, hc'⟩ := hB.str hltM
        have hi0 : (0 : Int) ≤ (k : Int) := by omega
        have hi1 : (k : Int) < (L.length : Int) := by omega
        have hi2 : (k : Int) < (M.length : Int) := by omega
        by_cases he : L[k] = M[k]
        · have he1 : (L[k] != M[k]) = false := by simp [he]
          have he2 : (L[k] == M[k]) = true := by simp [he]
          have HE := Lib.hid he; clear he hA hB
          go_wp2
          go_quiet (fail)
          go_wp2
          go_roundw
          case rel => exact ⟨k + 1, by omega, by go_num, by rw [List.take_succ_eq_append_getElem hlt, List.take_succ_eq_append_getElem hltM, HT.out, HE.out], _, rfl⟩
          case measure => simp [intOf]; omega
        · have he1 : (L[k] != M[k]) = true := by simp [he]
          have he2 : (L[k] == M[k]) = false := by simp [he]
          have HE := Lib.hid he; clear he hA hB
          go_wp2
          go_quiet (fail)
          go_wp2
          go_ret
          have hf : decide (L = M) = false := by
            simp only [decide_eq_false_iff_not]
            intro h
            subst h
            exact HE.out rfl
          exact ⟨ret_eq (congrArg Value.bool hf.symm), _, drewN_drewN _ _ _⟩
      · obtain rfl : k = L.length := by omega
        go_wp2
        go_ret
        have : L = M := by
          have h1 := HT.out
          rw [List.take_of_length_le (Nat.le_refl _), HL.out, List.take_of_length_le (Nat.le_refl _)] at h1
          exact h1
        exact ⟨ret_eq (congrArg Value.bool (by simp [this])), _, rfl⟩
  · have hne : ((L.length : Int) != (M.length : Int)) = true := by simp; omega
    have hf : decide (L = M) = false := by simp; intro h; exact hlen (by rw [h])
    rw [hf]
    clear hlen hf
    go_enter Try.func48, Try.ntmps48
    go_wp2
    go_ret
    exact ⟨rfl, 0, rfl⟩
def SlR (M : List Mk.Str) (w : World) (e : Ending) (w' : World) : Prop := ∃ A c, e = .returned (.slice A M.length c) ∧ M.length ≤ c ∧ c ≤ maxLen ∧ St w.heap.size w w' [ownR 9 1 (.slice A M.length c) M.length (strs M)]
set_option maxRecDepth 20000 in
set_option maxHeartbeats 1000000 in
theorem leaves_spec (A : Option Addr) (L : List Mk.Str) (c : Nat) (w : World) (hR : Rd w A (strs L)) (hb : weight L ≤ 1073741824) :
    Calls Try.prog 27 #[.slice A L.length c] w (SlR (L.map Mk.leaf) w) := by
  have hLl : L.length ≤ 1073741824 := by unfold weight at hb; omega
  have hel : ∀ k (h : k < L.length), L[k].length ≤ 1073741824 := fun k h => by
    have h1 := weight_take L k h
    have h2 := weight_take_le L (k + 1)
    unfold weight at hb
    omega
  have HR := Lib.hid (And.intro hR hel)
  clear hR hel hb
  go_enter Try.func27, Try.ntmps27
  go_wp2
  go_loopw [3, 8] (fun s i wr => ∃ k : Nat, k ≤ L.length ∧ i = .int .i64 k ∧ wr.ownsRow w.heap.size 9 1 s k (strs ((L.map Mk.leaf).take k)) ∧ Below w.heap.size w wr) (fun _ i _ => L.length - (intOf i).toNat)
  case atStart => exact ⟨0, Nat.zero_le _, rfl, ⟨rfl, .inl ⟨rfl, rfl⟩⟩, Below.refl _ _⟩
  case round =>
    obtain ⟨k, hk, rfl, own, hbe⟩ := hrel
    obtain ⟨A1, c1, rfl, hc1, hc2⟩ := own_form own
    have hsz := hbe.size
    by_cases hlt : k < L.length
    · obtain ⟨b, off, hA, hcc⟩ := (HR.out.1.below hbe).str hlt
      subst hA
      have hst : strs ((L.map Mk.leaf).take (k + 1)) = strs ((L.map Mk.leaf).take k) ++ [.string ⟨(Mk.leaf L[k]).toArray⟩] := by
        rw [List.take_succ_eq_append_getElem (by simpa using hlt), strs_append, List.getElem_map]
        rfl
      have b1 : (k + 1) * 16 ≤ 140737488355328 := by omega
      have b2 : k + 1 ≤ maxLen := by unfold maxLen; omega
      have hkd : (k : Int) < (L.length : Int) := by omega
      have kl := fun W => leaf_spec L[k] (HR.out.2 k hlt) W
      generalize Mk.leaf L[k] = y at kl hst
      generalize L[k] = x at kl hcc
      have HO := Lib.hid (And.intro own (And.intro hbe (And.intro hst hc1)))
      clear own hbe hst
      go_wp2_with fail
      refine (kl _).mono ?_
      rintro e w5 ⟨rfl, b5⟩
      have own5 := (Mod.of_below b5 (fun _ => False)).owns HO.out.1 (fun _ _ h => h)
      have hb5 := HO.out.2.1.trans (b5.mono hsz)
      have hs5 := hb5.size
      have H5 := Lib.hid own5
      clear own5
      go_wp2_with (at_builtin; go_must (refine append1 _ 22 9 (.string ⟨#[]⟩) 16 w.heap.size Try.underlying22 info_str rfl rfl _ _ rfl _ _ _ _ _ (H5.out.alloc _) rfl rfl (one_new _ _ _) rfl b1 b2 (by simp; omega) ?_); intro v' w1 hown1 hg1)
      go_roundw
      case rel =>
        refine ⟨k + 1, by omega, by go_num, ?_, (hb5.alloc hs5 _).grown hg1 (by simp; omega) (fun k hk => (H5.out.lt k hk).1)⟩
        rw [HO.out.2.2.1]
        exact hown1
      case measure => simp [intOf]; omega
    · obtain rfl : k = L.length := by omega
      have hfull : (L.map Mk.leaf).take L.length = L.map Mk.leaf := by rw [List.take_of_length_le (by simp)]
      rw [hfull] at own
      have HO := Lib.hid (And.intro own hbe)
      clear own hbe
      go_wp2
      go_ret
      have hl : (L.map Mk.leaf).length = L.length := by simp
      refine ⟨A1, c1, by rw [hl]; rfl, by rw [hl]; exact hc1, hc2, ?_⟩
      rw [hl]
      exact (St.nil w).new_own HO.out.2 HO.out.1
end Go.Proofs.Ytiklfjehhdbhfaa
