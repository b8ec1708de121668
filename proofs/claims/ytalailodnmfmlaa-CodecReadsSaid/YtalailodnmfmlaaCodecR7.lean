/-
  What the reference reads: ReadTexts. Conditions: the offset lies in the string, the string has at most 2^40 bytes.
-/
import Derived.Test.YtalailodnmfmlaaCodecR6
namespace Go.Proofs.Ytalailodnmfmlaa
set_option linter.unusedVariables false
open Go.RowKit

def TextsZ (B : Nat) (o : Option (List (List UInt8) × Nat)) (e : Ending) (w' : World) : Prop :=
  match o with
  | some (L, next) => ∃ v, e = .returned (.tuple #[v, .int .i64 next, .bool true]) ∧ w'.ownsRow B 9 1 v L.length (strs L)
  | none => e = .returned (.tuple #[.slice none 0 0, .int .i64 0, .bool false])

set_option maxRecDepth 20000 in
set_option maxHeartbeats 1000000 in
theorem readTexts_ref (s : List UInt8) (at_ : Nat) (w : World) (hs : s.length ≤ 1099511627776) (ha : at_ ≤ s.length) :
    Calls Try.prog 51 #[.string ⟨s.toArray⟩, .int .i64 at_] w fun e w' => TextsZ w.heap.size (Cd.readTexts s at_) e w' ∧ Below w.heap.size w w' := by
  have hsc := readUint_ref s at_ w hs ha
  cases hu : Cd.readUint s at_ with
  | none =>
    rw [readTexts_none hu]
    rw [hu] at hsc
    clear hu
    go_enter Try.func51, Try.ntmps51
    go_wp2_with fail
    refine hsc.mono ?_
    rintro e w' ⟨he, rfl⟩
    obtain rfl := he
    clear hsc
    go_wp2
    go_ret3
    exact ⟨rfl, Below.refl _ _⟩
  | some q =>
    obtain ⟨n, next⟩ := q
    obtain ⟨hle1, hle2, hle3⟩ := Cd.readUint_le hu ha
    have hle4 : (n : Int) ≤ 9223372036854775807 := by omega
    by_cases hn : n ≤ s.length - next
    · rw [readTexts_some hu hn]
      rw [hu] at hsc
      clear hu hle3
      have hn2 : (n : Int) ≤ (s.length : Int) - (next : Int) := by omega
      go_enter Try.func51, Try.ntmps51
      go_wp2_with fail
      refine hsc.mono ?_
      rintro e w' ⟨he, rfl⟩
      obtain rfl := he
      clear hsc
      go_wp2
      go_loopw [11, 8, 10, 12, 13, 14] (fun i a v _ _ _ wr => ∃ (k p : Nat) (pre : List (List UInt8)), k ≤ n ∧ pre.length = k ∧ i = .int .i64 k ∧ a = .int .i64 p ∧ p ≤ s.length ∧ Cd.readMany s n next = joinM pre (Cd.readMany s (n - k) p) ∧
        wr.ownsRow w.heap.size 9 1 v k (strs pre) ∧ Below w.heap.size w wr) (fun i _ _ _ _ _ _ => n - (intOf i).toNat)
      case atStart => exact ⟨0, next, [], Nat.zero_le _, rfl, rfl, rfl, hle2, (joinM_nil _).symm, World.ownsRow_lit w #[] 0 (Nat.le_refl _) (by decide) rfl, (Below.refl _ _).alloc (Nat.le_refl _) _⟩
      case round =>
        obtain ⟨k, p, pre, hk, hpre, rfl, rfl, hp, hj, hown, hbel⟩ := hrel
        have HJ := Lib.hid hj; have HP := Lib.hid hpre; have HO := Lib.hid hown
        clear hj hpre hown
        have hsz := hbel.size
        by_cases hlt : k < n
        · have htx := readText_ref s p wr hs hp
          cases hrt : Cd.readText s p with
          | none =>
            rw [hrt] at htx
            have HR := Lib.hid hrt; clear hrt
            go_wp2_with fail
            refine htx.mono ?_
            rintro e w' ⟨he, rfl⟩
            obtain rfl := he
            clear htx
            go_wp2
            go_ret3
            refine ⟨?_, hbel⟩
            rw [HJ.out, show n - k = (n - k - 1) + 1 from by omega, joinM_bad HR.out]
            exact rfl
          | some q =>
            obtain ⟨x, p'⟩ := q
            have hle := Cd.readText_le hrt hp
            rw [hrt] at htx
            have HR := Lib.hid hrt; clear hrt
            have b1 : (k + 1) * 16 ≤ 140737488355328 := by omega
            have b2 : k + 1 ≤ maxLen := by unfold maxLen; omega
            go_wp2_with fail
            refine htx.mono ?_
            rintro e w' ⟨he, rfl⟩
            obtain rfl := he
            clear htx
            go_wp2_with (at_builtin; go_must (refine append1 _ 22 9 (.string ⟨#[]⟩) 16 w.heap.size Try.underlying22 info_str rfl rfl _ _ rfl _ _ _ _ _ (HO.out.alloc _) rfl rfl (one_new _ _ _) rfl b1 b2 (by simp; omega) ?_); intro v' w1 hown1 hg1)
            go_roundw
            case rel =>
              refine ⟨k + 1, p', pre ++ [x], by omega, by simp [HP.out], by go_num, rfl, hle.2.1, ?_, ?_, (hbel.alloc hsz _).grown hg1 (by simp; omega) (fun k hk => (HO.out.lt k hk).1)⟩
              · rw [HJ.out, show n - k = (n - (k + 1)) + 1 from by omega, joinM_step HR.out]
              · simpa [strs] using hown1
            case measure => simp [intOf]; omega
        · have hkn : (n : Int) ≤ (k : Int) := by omega
          go_wp2
          go_ret3
          refine ⟨?_, hbel⟩
          obtain rfl : k = n := by omega
          rw [HJ.out, Nat.sub_self]
          have hj2 : joinM pre (Cd.readMany s 0 p) = some (pre, p) := by simp [Cd.readMany, joinM]
          rw [hj2]
          exact ⟨_, rfl, by simpa [HP.out] using HO.out⟩
    · rw [readTexts_big hu hn]
      rw [hu] at hsc
      clear hu hle3
      have hn2 : (s.length : Int) - (next : Int) < (n : Int) := by omega
      clear hn
      go_enter Try.func51, Try.ntmps51
      go_wp2_with fail
      refine hsc.mono ?_
      rintro e w' ⟨he, rfl⟩
      obtain rfl := he
      clear hsc
      go_wp2
      go_ret3
      exact ⟨rfl, Below.refl _ _⟩
end Go.Proofs.Ytalailodnmfmlaa
