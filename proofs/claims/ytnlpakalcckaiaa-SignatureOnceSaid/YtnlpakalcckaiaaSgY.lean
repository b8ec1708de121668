/-
  Signatures are accepted, and read back. Conditions: heights of at most 6.
-/
import Derived.Test.YtnlpakalcckaiaaSgK
import Derived.Test.YtnlpakalcckaiaaCdA
import Derived.Test.YtnlpakalcckaiaaMkB
namespace Go.Proofs.Ytnlpakalcckaiaa
set_option linter.unusedVariables false
open Go.RowKit

theorem pubK_last (seed : Sg.Str) (m : Nat) (hm : m ≤ 6) : ((pubK seed m).getD 32 0).toNat = m := by
  have h : (Mk.root (Sg.lvs seed (2 ^ m))).length = 32 := Mk.rootD (Sg.lvs_dig _ _)
  have h2 : (pubK seed m).getD 32 0 = UInt8.ofNat m := by
    unfold pubK
    rw [List.getD_eq_getElem?_getD, List.getElem?_append_right (by omega), h]
    rfl
  rw [h2, UInt8.toNat_ofNat']
  omega
theorem pubK_take (seed : Sg.Str) (m : Nat) : (pubK seed m).take 32 = Mk.root (Sg.lvs seed (2 ^ m)) := by
  have h : (Mk.root (Sg.lvs seed (2 ^ m))).length = 32 := Mk.rootD (Sg.lvs_dig _ _)
  unfold pubK
  rw [List.take_left' h]
theorem lvs_getD (seed : Sg.Str) (n q : Nat) (h : q < n) : (Sg.lvs seed n).getD q [] = Sg.otl seed q := by
  unfold Sg.lvs
  rw [List.getD_eq_getElem?_getD, List.getElem?_map, List.getElem?_range h]
  rfl
theorem accepts (seed : Sg.Str) (m q : Nat) (d : List Nat) (hm : m ≤ 6) (hq : q < 2 ^ m) (hd : ∀ x ∈ d, x ≤ 15) : verB (pubK seed m) d (q : Int) (Sg.chn seed q d 67) (Mk.incl (Sg.lvs seed (2 ^ m)) q) = true := by
  have hP := pow6 hm
  unfold verB
  rw [if_pos (pubK_len seed m), pubK_last seed m hm, if_pos hm, if_pos (by omega), if_pos (by omega), if_pos (Sg.chn_len _ _ _ _), if_pos ((vld_iff _).2 (Sg.chn_dig _ _ _ _)), pubK_take, Int.toNat_natCast, Sg.ends_chn seed q d hd 67 67 (Nat.le_refl _)]
  show incB (Sg.otl seed q) (q : Int) ((2 ^ m : Nat) : Int) _ _ = true
  have h := incB_ok (Sg.lvs_dig seed (2 ^ m)) (by rw [Sg.lvs_len]; omega) q (by rw [Sg.lvs_len]; exact hq)
  have hg := lvs_getD seed (2 ^ m) q hq
  rw [List.getD_eq_getElem?_getD, List.getElem?_eq_getElem (by rw [Sg.lvs_len]; exact hq)] at hg
  rw [show (Sg.lvs seed (2 ^ m))[q]'(by rw [Sg.lvs_len]; exact hq) = Sg.otl seed q from hg, Sg.lvs_len] at h
  exact h
theorem depth_le : ∀ (m n i : Nat), n ≤ 2 ^ m → Mk.depth i n ≤ m
  | 0, n, i, h => by rw [Mk.depth_one i n (by simp at h; omega)]; exact Nat.le_refl 0
  | m + 1, n, i, h => by
    by_cases h2 : n < 2
    · rw [Mk.depth_one i n h2]; omega
    · have hk0 := Mk.split_pos n
      have hk1 := Mk.split_lt (n := n) (by omega)
      have hk2 := Mk.split_ge (n := n) (by omega)
      have hs : Mk.split n ≤ 2 ^ m := by
        have e : Mk.split n = 2 ^ Nat.log2 (n - 1) := rfl
        rw [e] at hk1 ⊢
        refine Nat.pow_le_pow_right (by decide) ?_
        have : 2 ^ Nat.log2 (n - 1) < 2 ^ (m + 1) := by omega
        have := (Nat.pow_lt_pow_iff_right (a := 2) (by decide)).1 this
        omega
      by_cases hi : i < Mk.split n
      · rw [Mk.depth_left i n (by omega) hi]
        have := depth_le m (Mk.split n) i hs
        omega
      · rw [Mk.depth_right i n (by omega) hi]
        have := depth_le m (n - Mk.split n) (i - Mk.split n) (by omega)
        omega
theorem incl_le (seed : Sg.Str) (m q : Nat) : (Mk.incl (Sg.lvs seed (2 ^ m)) q).length ≤ m := by
  rw [Mk.incl_length (2 ^ m) _ q (Sg.lvs_len _ _)]
  exact depth_le m _ q (Nat.le_refl _)
theorem okB_sign (seed : Sg.Str) (m q : Nat) (d : List Nat) (hm : m ≤ 6) : okB (q : Int) (Sg.chn seed q d 67) (Mk.incl (Sg.lvs seed (2 ^ m)) q) = true := by
  have hl := incl_le seed m q
  unfold okB
  rw [if_pos (by omega), if_pos (Sg.chn_len _ _ _ _), if_pos (by omega), if_pos ((vld_iff _).2 (Sg.chn_dig _ _ _ _))]
  exact vld_of (Mk.incl_dig _ _ q (Nat.le_refl _) (Sg.lvs_dig _ _))
theorem okB_parts {i : Int} {C T : List Sg.Str} (ho : okB i C T = true) : 0 ≤ i ∧ C.length = 67 ∧ T.length ≤ 6 ∧ vld C = true ∧ vld T = true := by
  unfold okB at ho
  by_cases c1 : 0 ≤ i
  · rw [if_pos c1] at ho
    by_cases c2 : C.length = 67
    · rw [if_pos c2] at ho
      by_cases c3 : T.length ≤ 6
      · rw [if_pos c3] at ho
        by_cases c4 : vld C = true
        · rw [if_pos c4] at ho; exact ⟨c1, c2, c3, c4, ho⟩
        · rw [if_neg c4] at ho; cases ho
      · rw [if_neg c3] at ho; cases ho
    · rw [if_neg c2] at ho; cases ho
  · rw [if_neg c1] at ho; cases ho
theorem decR_encS (i : Int) (C T : List Sg.Str) (hi : i < 9223372036854775808) (ho : okB i C T = true) : decR (encS i C T) = ((i, C, T), 0) := by
  obtain ⟨c1, c2, c3, c4, c5⟩ := okB_parts ho
  obtain ⟨n, rfl⟩ : ∃ n : Nat, i = (n : Int) := ⟨i.toNat, by omega⟩
  have hC : ∀ s ∈ C, s.length < 2 ^ 63 := fun s hs => by rw [(vld_iff C).1 c4 s hs]; decide
  have hT : ∀ s ∈ T, s.length < 2 ^ 63 := fun s hs => by rw [(vld_iff T).1 c5 s hs]; decide
  have r1 : Cd.readUint (encS (n : Int) C T) 0 = some (n, (Cd.uns n).length) := by
    have := Cd.readUint_at [] (Cd.texts C ++ Cd.texts T) n (by omega)
    simp only [List.nil_append, List.length_nil, Nat.zero_add] at this
    unfold encS
    rw [Int.toNat_natCast, List.append_assoc]
    exact this
  have r2 : Cd.readTexts (encS (n : Int) C T) (Cd.uns n).length = some (C, (Cd.uns n).length + (Cd.texts C).length) := by
    have := Cd.readTexts_at (Cd.uns n) (Cd.texts T) C hC (by omega)
    unfold encS
    rw [Int.toNat_natCast, List.append_assoc]
    exact this
  have r3 : Cd.readTexts (encS (n : Int) C T) ((Cd.uns n).length + (Cd.texts C).length) = some (T, (Cd.uns n).length + (Cd.texts C).length + (Cd.texts T).length) := by
    have := Cd.readTexts_at (Cd.uns n ++ Cd.texts C) [] T hT (by omega)
    unfold encS
    rw [Int.toNat_natCast]
    rw [List.append_nil, List.length_append] at this
    exact this
  have hlen : (encS (n : Int) C T).length = (Cd.uns n).length + (Cd.texts C).length + (Cd.texts T).length := by
    unfold encS
    rw [Int.toNat_natCast, List.length_append, List.length_append]
  unfold decR
  have e1 : uintR (encS (n : Int) C T) 0 0 = ((n : Int), (Cd.uns n).length, 0) := by unfold uintR; rw [if_neg (by simp), r1]
  have e2 : textsR (encS (n : Int) C T) (Cd.uns n).length 0 = (C, (Cd.uns n).length + (Cd.texts C).length, 0) := by unfold textsR; rw [if_neg (by simp), r2]
  have e3 : textsR (encS (n : Int) C T) ((Cd.uns n).length + (Cd.texts C).length) 0 = (T, (Cd.uns n).length + (Cd.texts C).length + (Cd.texts T).length, 0) := by unfold textsR; rw [if_neg (by simp), r3]
  have e4 : endR (encS (n : Int) C T) ((Cd.uns n).length + (Cd.texts C).length + (Cd.texts T).length) 0 = 0 := by unfold endR; rw [if_neg (fun h => by omega)]
  simp only [e1, e2, e3, e4, ho, if_true]
theorem treeB_ok (seed : Sg.Str) (m : Nat) (hs : seed.length = 32) (hm : m ≤ 6) : treeB seed (m : Int) = true := by
  unfold treeB
  simp only [Bool.and_eq_true, decide_eq_true_eq]
  exact ⟨hs, by omega, by omega⟩
theorem validB_ok (seed : Sg.Str) (m q : Nat) (hs : seed.length = 32) (hm : m ≤ 6) (hq : q ≤ 2 ^ m) : validB seed (m : Int) (q : Int) = true := by
  unfold validB
  rw [treeB_ok seed m hs hm, Int.toNat_natCast]
  simp only [Bool.true_and, Bool.and_eq_true, decide_eq_true_eq]
  exact ⟨by omega, by omega⟩
theorem pubR_ok (seed : Sg.Str) (m : Nat) (hs : seed.length = 32) (hm : m ≤ 6) : pubR seed (m : Int) = (pubK seed m, 0) := by
  unfold pubR
  rw [if_pos (treeB_ok seed m hs hm), Int.toNat_natCast]
theorem signR_ok (seed : Sg.Str) (m q : Nat) (d : List Nat) (hs : seed.length = 32) (hm : m ≤ 6) (hq : q < 2 ^ m) : signR seed (m : Int) (q : Int) d = (((q : Int), Sg.chn seed q d 67, Mk.incl (Sg.lvs seed (2 ^ m)) q), (seed, (m : Int), (q : Int) + 1), 0) := by
  unfold signR
  rw [if_pos (validB_ok seed m q hs hm (by omega)), Int.toNat_natCast, Int.toNat_natCast, if_neg (by omega)]
theorem signR_full (seed : Sg.Str) (m : Nat) (d : List Nat) (hs : seed.length = 32) (hm : m ≤ 6) : signR seed (m : Int) ((2 ^ m : Nat) : Int) d = ((0, [], []), ([], 0, 0), 22) := by
  unfold signR
  rw [if_pos (validB_ok seed m (2 ^ m) hs hm (Nat.le_refl _)), Int.toNat_natCast, if_pos rfl]
theorem skipR_ok (seed : Sg.Str) (m q c : Nat) (hs : seed.length = 32) (hm : m ≤ 6) (hq : q + c ≤ 2 ^ m) : skipR seed (m : Int) (q : Int) (c : Int) = ((seed, (m : Int), ((q + c : Nat) : Int)), 0) := by
  unfold skipR
  rw [if_pos (validB_ok seed m q hs hm (by omega)), if_pos (by omega), Int.toNat_natCast, if_pos (by omega)]
  rfl
theorem encE_ok (i : Int) (C T : List Sg.Str) (h : okB i C T = true) : encE i C T = (encS i C T, 0) := by unfold encE; rw [if_pos h]
end Go.Proofs.Ytnlpakalcckaiaa
