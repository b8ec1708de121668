/-
  What a verifier answers at proofs that are made, and at others: plain laws. Conditions: at most 4096 leaves.
-/
import Derived.Test.YtiklfjehhdbhfaaMkP
namespace Go.Proofs.Ytiklfjehhdbhfaa
set_option linter.unusedVariables false
open Go.RowKit

theorem vld_of {L : List Mk.Str} (h : Mk.AllD L) : vld L = true := (vld_iff L).2 h
theorem okL {L : List Mk.Str} (h : Mk.AllD L) (hl : L.length ≤ 4096) : (decide (L.length ≤ 4096) && vld L) = true := by rw [vld_of h, decide_eq_true hl]; rfl
theorem mRoot_ok {L : List Mk.Str} (h : Mk.AllD L) (hl : L.length ≤ 4096) : mRoot L = Mk.root L := by unfold mRoot; rw [if_pos (okL h hl)]
theorem mInc_ok {L : List Mk.Str} (h : Mk.AllD L) (hl : L.length ≤ 4096) (i : Nat) (hi : i < L.length) : mInc L i = (Mk.incl L i, 0) := by
  unfold mInc
  rw [if_pos (okL h hl), if_neg (by omega)]
  rfl
theorem mCon_ok {L : List Mk.Str} (h : Mk.AllD L) (hl : L.length ≤ 4096) (m : Nat) (h1 : 1 ≤ m) (hm : m ≤ L.length) : mCon L m = (Mk.cons L m true, 0) := by
  unfold mCon
  rw [if_pos (okL h hl), if_neg (by omega), if_neg (by omega)]
  rfl
theorem mCon_zero {L : List Mk.Str} (h : Mk.AllD L) (hl : L.length ≤ 4096) : mCon L 0 = ([], 0) := by
  unfold mCon
  rw [if_pos (okL h hl), if_neg (by omega), if_pos rfl]
theorem leaf_dig (L : List Mk.Str) : Mk.AllD (L.map Mk.leaf) := fun x hx => by
  obtain ⟨y, _, rfl⟩ := List.mem_map.1 hx
  exact Sh.sha_length _
theorem incB_ok {L : List Mk.Str} (h : Mk.AllD L) (hl : L.length ≤ 4096) (i : Nat) (hi : i < L.length) : incB L[i] i L.length (Mk.incl L i) (Mk.root L) = true := by
  have hg := Mk.given_incl L.length L i rfl hi
  have hgd : L.getD i [] = L[i] := by simp [List.getD_eq_getElem?_getD, hi]
  rw [hgd] at hg
  have h1 : L[i].length = 32 := h _ (List.getElem_mem hi)
  have h2 := Mk.rootD h
  have h3 := Mk.incl_length L.length L i rfl
  have h4 := Mk.depth_le i L.length
  have h5 := okL (Mk.incl_dig L.length L i (Nat.le_refl _) h) (by omega)
  have hb : incBad L[i] i L.length (Mk.incl L i) (Mk.root L) = false := by
    unfold incBad
    rw [h1, h2, h5]
    simp
    omega
  unfold incB
  rw [hb, Int.toNat_natCast, Int.toNat_natCast, hg]
  simp
theorem incB_len (x r : Mk.Str) (P : List Mk.Str) (i n : Nat) (hP : P.length ≠ Mk.depth i n) : incB x i n P r = false := by
  unfold incB
  rw [Int.toNat_natCast, Int.toNat_natCast, Mk.given_ok, decide_eq_false hP]
  simp
theorem incB_out (x r : Mk.Str) (P : List Mk.Str) (i n : Int) (h : i < 0 ∨ n ≤ i) : incB x i n P r = false := by
  refine incB_bad ?_
  unfold incBad
  rcases h with h | h
  · rw [decide_eq_true h]; simp
  · rw [decide_eq_true (show i ≥ n from h)]; simp
theorem cdepth_le (m n : Nat) (b : Bool) (h1 : 1 ≤ n) : Mk.cdepth m n b ≤ n := by
  induction n using Nat.strongRecOn generalizing m b with
  | _ n ih =>
    by_cases h : m = n
    · subst h; rw [Mk.cdepth_same]; split <;> omega
    · by_cases h2 : 2 ≤ n
      · have k0 := Mk.split_pos n
        have k1 := Mk.split_lt h2
        by_cases hi : m ≤ Mk.split n
        · rw [Mk.cdepth_left m n b h2 h hi]; have := ih (Mk.split n) k1 m b (by omega); omega
        · rw [Mk.cdepth_right m n b h2 h hi]; have := ih (n - Mk.split n) (by omega) (m - Mk.split n) false (by omega); omega
      · rw [Mk.cdepth, if_neg h, dif_pos (by omega)]; omega
theorem extB_ok {L : List Mk.Str} (h : Mk.AllD L) (hl : L.length ≤ 4096) (m : Nat) (h1 : 1 ≤ m) (hm : m ≤ L.length) : extB m L.length (Mk.root (L.take m)) (Mk.root L) (Mk.cons L m true) = true := by
  have hr := Mk.rd_cons L.length L m true rfl h h1 hm
  rw [if_pos rfl] at hr
  have h2 := Mk.rootD (h.take m)
  have h3 := Mk.rootD h
  have h4 := Mk.cons_length L.length L m true rfl h1 hm
  have h5 := cdepth_le m L.length true (by omega)
  have h6 := okL (Mk.cons_dig L.length L m true (Nat.le_refl _) h) (by omega)
  have hb : extBad m L.length (Mk.root (L.take m)) (Mk.root L) (Mk.cons L m true) = false := by
    unfold extBad
    rw [h2, h3, h6]
    simp
    omega
  unfold extB
  rw [hb, if_neg (by omega), Int.toNat_natCast, Int.toNat_natCast, hr]
  simp
theorem extB_zero {L : List Mk.Str} (h : Mk.AllD L) (hl : L.length ≤ 4096) : extB 0 L.length (Sh.sha []) (Mk.root L) [] = true := by
  have h3 := Mk.rootD h
  have h2 : (Sh.sha []).length = 32 := Sh.sha_length _
  have hb : extBad 0 L.length (Sh.sha []) (Mk.root L) [] = false := by
    unfold extBad
    rw [h2, h3, okL Mk.AllD.nil (by decide)]
    simp
    omega
  unfold extB
  rw [hb, if_pos rfl]
  by_cases h0 : L.length = 0
  · obtain rfl := List.eq_nil_of_length_eq_zero h0
    rw [Mk.root_nil]
    simp
  · have : decide ((L.length : Int) > 0) = true := by simp; omega
    rw [this]
    simp
theorem extB_len (o r : Mk.Str) (P : List Mk.Str) (m n : Nat) (h1 : 1 ≤ m) (hm : m ≤ n) (hP : P.length ≠ Mk.cdepth m n true) : extB m n o r P = false := by
  by_cases ho : o = []
  · subst ho
    exact extB_bad (by unfold extBad; simp)
  · have hr := Mk.rd_ok n m o P h1 hm
    have hd : decide (o ≠ []) = true := decide_eq_true ho
    rw [hd, decide_eq_false hP] at hr
    unfold extB
    rw [if_neg (by omega), Int.toNat_natCast, Int.toNat_natCast, hr]
    simp
theorem extB_zero_len (o r : Mk.Str) (P : List Mk.Str) (n : Int) (hP : P ≠ []) : extB 0 n o r P = false := by
  unfold extB
  rw [if_pos rfl]
  have : P.isEmpty = false := by cases P; exact absurd rfl hP; rfl
  rw [this]
  simp
theorem extB_order (o r : Mk.Str) (P : List Mk.Str) (m n : Int) (h : m > n) : extB m n o r P = false := by
  refine extB_bad ?_
  unfold extBad
  rw [decide_eq_true h]
  simp
/-- the rest of a list, as the model says it -/
theorem rd_cut {w : World} {g c : Nat} {P : List Mk.Str} (h : Rd w (some ⟨g, 0, none⟩) (strs P)) (hc : P.length ≤ c) : Rd w (if c = 1 then some ⟨g, 0, none⟩ else some ⟨g, 1, none⟩) (strs (P.drop 1)) := by
  by_cases h1 : c = 1
  · have : P.drop 1 = [] := List.drop_eq_nil_of_le (by omega)
    rw [this]
    exact Rd.nil _ _
  · rw [if_neg h1]
    have := rd_drop h 1
    exact this
theorem tmod_nat (a n : Nat) : (a : Int).tmod (n : Int) = ((a % n : Nat) : Int) := by rw [Int.tmod_eq_emod_of_nonneg (by omega)]; rfl
end Go.Proofs.Ytiklfjehhdbhfaa
