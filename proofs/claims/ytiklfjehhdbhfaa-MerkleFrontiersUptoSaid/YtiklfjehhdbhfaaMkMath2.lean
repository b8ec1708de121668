/-
  Consistency proofs and frontiers. Conditions: as said.
-/
import Derived.Test.YtiklfjehhdbhfaaMkMath
namespace Go.Proofs.Ytiklfjehhdbhfaa.Mk
set_option linter.unusedVariables false

theorem ne_of_len {x : Str} (h : x.length = 32) : x ≠ [] := fun e => by rw [e] at h; cases h
theorem cons_dig : ∀ (n : Nat) (L : List Str) (m : Nat) (b : Bool), L.length ≤ n → AllD L → AllD (cons L m b)
  | n, L, m, b, hn, h => by
    by_cases hm : m = L.length
    · subst hm
      rw [cons_whole]
      cases b
      · exact .one (rootD h)
      · exact .nil
    by_cases h2 : L.length < 2
    · rw [cons, if_neg hm, dif_pos h2]; exact .nil
    · match n with
      | 0 => omega
      | n + 1 =>
        have h3 := split_lt (n := L.length) (by omega)
        have h4 := split_pos L.length
        by_cases hi : m ≤ split L.length
        · rw [cons_left L m b (by omega) hm hi]
          exact (cons_dig n _ m b (by rw [List.length_take]; omega) (h.take _)).append (.one (rootD (h.drop _)))
        · rw [cons_right L m b (by omega) hm hi]
          exact (cons_dig n _ _ _ (by rw [List.length_drop]; omega) (h.drop _)).append (.one (rootD (h.take _)))
/-- how many elements a consistency proof has -/
def cdepth (m n : Nat) (b : Bool) : Nat :=
  if m = n then (if b then 0 else 1) else if h : n < 2 then 0 else if m ≤ split n then cdepth m (split n) b + 1 else cdepth (m - split n) (n - split n) false + 1
termination_by n
decreasing_by
  · exact split_lt (by omega)
  · have := split_pos n; omega
theorem cdepth_same (n : Nat) (b : Bool) : cdepth n n b = if b then 0 else 1 := by rw [cdepth, if_pos rfl]
theorem cdepth_left (m n : Nat) (b : Bool) (h : 2 ≤ n) (hm : m ≠ n) (hi : m ≤ split n) : cdepth m n b = cdepth m (split n) b + 1 := by rw [cdepth, if_neg hm, dif_neg (by omega), if_pos hi]
theorem cdepth_right (m n : Nat) (b : Bool) (h : 2 ≤ n) (hm : m ≠ n) (hi : ¬ m ≤ split n) : cdepth m n b = cdepth (m - split n) (n - split n) false + 1 := by rw [cdepth, if_neg hm, dif_neg (by omega), if_neg hi]
theorem cons_length : ∀ (n : Nat) (L : List Str) (m : Nat) (b : Bool), L.length = n → 1 ≤ m → m ≤ n → (cons L m b).length = cdepth m n b := by
  intro n
  induction n using Nat.strongRecOn with
  | _ n ih =>
    intro L m b hn h1 hmn
    by_cases hm : m = n
    · subst hm
      rw [← hn, cons_whole, cdepth_same]
      cases b <;> rfl
    · have h3 := split_lt (n := n) (by omega)
      have h4 := split_pos n
      by_cases hi : m ≤ split n
      · rw [cons_left L m b (by omega) (by omega) (by rw [hn]; exact hi), cdepth_left m n b (by omega) hm hi, List.length_append, hn, ih (split n) h3 _ m b (take_len (by omega)) h1 hi]
        rfl
      · rw [cons_right L m b (by omega) (by omega) (by rw [hn]; exact hi), cdepth_right m n b (by omega) hm hi, List.length_append, hn, ih (n - split n) (by omega) _ _ _ (by rw [List.length_drop, hn]) (by omega) (by omega)]
        rfl
theorem rd_ok : ∀ (n : Nat) (m : Nat) (w : Str) (P : List Str), 1 ≤ m → m ≤ n → (rd m n w P).2 = decide (P.length = cdepth m n (decide (w ≠ []))) := by
  intro n
  induction n using Nat.strongRecOn with
  | _ n ih =>
    intro m w P h1 hmn
    by_cases hm : m = n
    · subst hm
      rw [rd_same, cdepth_same]
      by_cases hw : w = []
      · subst hw
        by_cases hP : P.length = 1
        · simp [hP]
        · simp [hP]
      · cases P <;> simp [hw]
    · have h3 := split_lt (n := n) (by omega)
      have h4 := split_pos n
      rcases snoc_cases P with rfl | ⟨Q, q, rfl⟩
      · rw [rd_nil _ _ _ (by omega) hm]
        by_cases hi : m ≤ split n
        · rw [cdepth_left m n _ (by omega) hm hi]; simp
        · rw [cdepth_right m n _ (by omega) hm hi]; simp
      · by_cases hi : m ≤ split n
        · rw [rd_left _ _ _ _ _ (by omega) hm hi, cdepth_left m n _ (by omega) hm hi]
          show (rd m (split n) w Q).2 = _
          rw [ih (split n) h3 m w Q h1 hi]
          simp
        · rw [rd_right _ _ _ _ _ (by omega) hm hi, cdepth_right m n _ (by omega) hm hi]
          show (rd (m - split n) (n - split n) [] Q).2 = _
          rw [ih (n - split n) (by omega) (m - split n) [] Q (by omega) (by omega)]
          simp
/-- the consistency proof gives both roots -/
theorem rd_cons : ∀ (n : Nat) (L : List Str) (m : Nat) (b : Bool), L.length = n → AllD L → 1 ≤ m → m ≤ n → rd m n (if b then root (L.take m) else []) (cons L m b) = ((root (L.take m), root L), true) := by
  intro n
  induction n using Nat.strongRecOn with
  | _ n ih =>
    intro L m b hn hd h1 hmn
    by_cases hm : m = n
    · subst hm
      have ht : L.take L.length = L := List.take_length
      rw [← hn, cons_whole, rd_same, ht]
      cases b
      · simp
      · have := ne_of_len (rootD hd)
        simp [this]
    · have h3 := split_lt (n := n) (by omega)
      have h4 := split_pos n
      have h5 := split_ge (n := n) (by omega)
      by_cases hi : m ≤ split n
      · rw [cons_left L m b (by omega) (by omega) (by rw [hn]; exact hi), rd_left _ _ _ _ _ (by omega) hm hi, hn]
        have e := ih (split n) h3 (L.take (split n)) m b (take_len (by omega)) (hd.take _) h1 hi
        rw [List.take_take, Nat.min_eq_left hi] at e
        rw [e, root_split L (by omega), hn]
      · rw [cons_right L m b (by omega) (by omega) (by rw [hn]; exact hi), rd_right _ _ _ _ _ (by omega) hm hi, hn]
        have e := ih (n - split n) (by omega) (L.drop (split n)) (m - split n) false (by rw [List.length_drop, hn]) (hd.drop _) (by omega) (by omega)
        simp only [Bool.false_eq_true, if_false] at e
        rw [e, root_split L (by omega), hn]
        have hl : (L.take m).length = m := take_len (by omega)
        have h2 : split m = split n := by
          refine split_unique (by omega) _ rfl ?_ ?_
          · show split n < m; omega
          · show m ≤ 2 * split n; omega
        rw [root_split (L.take m) (by omega), hl, h2, List.take_take, Nat.min_eq_left (by omega)]
        have : (L.drop (split n)).take (m - split n) = (L.take m).drop (split n) := by rw [List.drop_take]
        rw [this]

/-! ### frontiers -/
/-- the number of ones of a number -/
def ones (n : Nat) : Nat := if h : n = 0 then 0 else n % 2 + ones (n / 2)
termination_by n
decreasing_by omega
theorem ones_zero : ones 0 = 0 := by rw [ones, dif_pos rfl]
theorem ones_pos (n : Nat) (h : n ≠ 0) : ones n = n % 2 + ones (n / 2) := by rw [ones, dif_neg h]
theorem ones_half (n : Nat) : ones n = n % 2 + ones (n / 2) := by
  by_cases h : n = 0
  · subst h; simp [ones_zero]
  · exact ones_pos n h
theorem ones_add : ∀ (a r : Nat), r < 2 ^ a → ones (2 ^ a + r) = ones r + 1
  | 0, r, h => by
    obtain rfl : r = 0 := by omega
    rw [ones_zero, ones_half]
    simp [ones_zero]
  | a + 1, r, h => by
    rw [Nat.pow_succ] at h ⊢
    rw [ones_half (2 ^ a * 2 + r), ones_half r]
    have e1 : (2 ^ a * 2 + r) % 2 = r % 2 := by omega
    have e2 : (2 ^ a * 2 + r) / 2 = 2 ^ a + r / 2 := by omega
    rw [e1, e2, ones_add a (r / 2) (by omega)]
    omega
theorem pow_log_le {n : Nat} (h : n ≠ 0) : 2 ^ n.log2 ≤ n := Nat.log2_self_le h
theorem lt_pow_log (n : Nat) : n < 2 * 2 ^ n.log2 := by have := Nat.lt_log2_self (n := n); rw [Nat.pow_succ] at this; omega
/-- the roots of the complete subtrees, from the left -/
def peaks (L : List Str) : List Str := if h : L.length = 0 then [] else root (L.take (2 ^ L.length.log2)) :: peaks (L.drop (2 ^ L.length.log2))
termination_by L.length
decreasing_by
  have := Nat.two_pow_pos L.length.log2
  rw [List.length_drop]
  omega
theorem peaks_nil : peaks [] = [] := by rw [peaks, dif_pos List.length_nil]
theorem peaks_cons (L : List Str) (a r : Nat) (h : L.length = 2 ^ a + r) (hr : r < 2 ^ a) : peaks L = root (L.take (2 ^ a)) :: peaks (L.drop (2 ^ a)) := by
  have hp := Nat.two_pow_pos a
  have hl : L.length.log2 = a := by
    have h1 := (Nat.le_log2 (n := L.length) (k := a) (by omega)).2 (by omega)
    have h2 := (Nat.log2_lt (n := L.length) (k := a + 1) (by omega)).2 (by rw [Nat.pow_succ]; omega)
    omega
  rw [peaks, dif_neg (by omega), hl]
theorem parts_of (n : Nat) (h : n ≠ 0) : ∃ a r, n = 2 ^ a + r ∧ r < 2 ^ a := ⟨n.log2, n - 2 ^ n.log2, by have := pow_log_le h; omega, by have := lt_pow_log n; have := pow_log_le h; omega⟩
theorem peaks_ind {M : List Str → Prop} (h0 : M []) (hs : ∀ (L : List Str) (a r : Nat), L.length = 2 ^ a + r → r < 2 ^ a → M (L.drop (2 ^ a)) → M L) (L : List Str) : M L := by
  suffices H : ∀ (n : Nat) (L : List Str), L.length ≤ n → M L from H L.length L (Nat.le_refl _)
  intro n
  induction n with
  | zero => intro L hl; obtain rfl : L = [] := List.eq_nil_of_length_eq_zero (by omega); exact h0
  | succ n ih =>
    intro L hl
    by_cases hz : L.length = 0
    · obtain rfl : L = [] := List.eq_nil_of_length_eq_zero hz; exact h0
    · obtain ⟨a, r, h1, h2⟩ := parts_of L.length hz
      have := Nat.two_pow_pos a
      exact hs L a r h1 h2 (ih _ (by rw [List.length_drop]; omega))
theorem peaks_length (L : List Str) : (peaks L).length = ones L.length := by
  refine peaks_ind (M := fun L => (peaks L).length = ones L.length) (by rw [peaks_nil]; exact ones_zero.symm) (fun L a r h1 h2 ih => ?_) L
  show (peaks L).length = ones L.length
  rw [peaks_cons L a r h1 h2, List.length_cons, ih, List.length_drop, h1, ones_add a r h2, Nat.add_sub_cancel_left]
theorem peaks_dig (L : List Str) (h : AllD L) : AllD (peaks L) := by
  revert h
  refine peaks_ind (M := fun L => AllD L → AllD (peaks L)) (fun _ => by rw [peaks_nil]; exact .nil) (fun L a r h1 h2 ih h => ?_) L
  rw [peaks_cons L a r h1 h2]
  intro x hx
  rcases List.mem_cons.1 hx with rfl | hx
  · exact rootD (h.take _)
  · exact ih (h.drop _) x hx
theorem peaks_none (L : List Str) : peaks L = [] ↔ L = [] := by
  constructor
  · intro h
    by_cases hz : L.length = 0
    · exact List.eq_nil_of_length_eq_zero hz
    · rw [peaks, dif_neg hz] at h; cases h
  · rintro rfl; exact peaks_nil
theorem root_pow (L : List Str) (a : Nat) (h : L.length = 2 ^ (a + 1)) : root L = node (root (L.take (2 ^ a))) (root (L.drop (2 ^ a))) := by
  have hp := Nat.two_pow_pos a
  rw [Nat.pow_succ] at h
  rw [root_split L (by omega), split_unique (k := 2 ^ a) (by omega) a rfl (by omega) (by omega)]
theorem root_mixed (L : List Str) (a r : Nat) (h : L.length = 2 ^ a + r) (h0 : 0 < r) (hr : r < 2 ^ a) : root L = node (root (L.take (2 ^ a))) (root (L.drop (2 ^ a))) := by
  have hp := Nat.two_pow_pos a
  rw [root_split L (by omega), split_unique (k := 2 ^ a) (by omega) a rfl (by omega) (by omega)]
/-- the root of a frontier -/
def rootP (H : List Str) : Str := H.dropLast.foldr node (H.getLastD (Sh.sha []))
theorem rootP_cons (p : Str) (H : List Str) (h : H ≠ []) : rootP (p :: H) = node p (rootP H) := by
  obtain ⟨Q, q, rfl⟩ : ∃ Q q, H = Q ++ [q] := by
    rcases snoc_cases H with e | e
    · exact absurd e h
    · exact e
  unfold rootP
  have e1 : (p :: (Q ++ [q])).dropLast = p :: Q := by rw [← List.cons_append, List.dropLast_concat]
  have e2 : (p :: (Q ++ [q])).getLastD (Sh.sha []) = q := by rw [← List.cons_append, List.getLastD_concat]
  rw [e1, e2, List.dropLast_concat, List.getLastD_concat]
  rfl
theorem rootP_peaks (L : List Str) : rootP (peaks L) = root L := by
  refine peaks_ind (M := fun L => rootP (peaks L) = root L) (by rw [peaks_nil, root_nil]; rfl) (fun L a r h1 h2 ih => ?_) L
  show rootP (peaks L) = root L
  rw [peaks_cons L a r h1 h2]
  by_cases h0 : r = 0
  · subst h0
    have e1 : L.drop (2 ^ a) = [] := List.drop_eq_nil_of_le (by omega)
    have e2 : L.take (2 ^ a) = L := List.take_of_length_le (by omega)
    rw [e1, e2, peaks_nil]
    rfl
  · rw [rootP_cons _ _ (fun e => by
      have := (peaks_none _).1 e
      have := congrArg List.length this
      rw [List.length_drop] at this
      simp at this
      omega), ih, root_mixed L a r h1 (by omega) h2]
/-- trailing ones -/
def tones (n : Nat) : Nat := if h : n % 2 = 1 then tones (n / 2) + 1 else 0
termination_by n
decreasing_by omega
theorem tones_odd (n : Nat) (h : n % 2 = 1) : tones n = tones (n / 2) + 1 := by rw [tones, dif_pos h]
theorem tones_even (n : Nat) (h : ¬ n % 2 = 1) : tones n = 0 := by rw [tones, dif_neg h]
theorem tones_le (n : Nat) : tones n ≤ ones n := by
  induction n using Nat.strongRecOn with
  | _ n ih =>
    by_cases h : n % 2 = 1
    · rw [tones_odd n h, ones_half n]
      have := ih (n / 2) (by omega)
      omega
    · rw [tones_even n h]; omega
theorem tones_full : ∀ a, tones (2 ^ a - 1) = a
  | 0 => by rw [tones_even _ (by decide)]
  | a + 1 => by
    have hp := Nat.two_pow_pos a
    rw [tones_odd _ (by rw [Nat.pow_succ]; omega), show (2 ^ (a + 1) - 1) / 2 = 2 ^ a - 1 by rw [Nat.pow_succ]; omega, tones_full a]
theorem tones_add : ∀ (a r : Nat), r + 1 < 2 ^ a → tones (2 ^ a + r) = tones r
  | 0, r, h => by omega
  | a + 1, r, h => by
    rw [Nat.pow_succ] at h ⊢
    by_cases ho : r % 2 = 1
    · rw [tones_odd _ (by omega), tones_odd r ho, show (2 ^ a * 2 + r) / 2 = 2 ^ a + r / 2 by omega, tones_add a (r / 2) (by omega)]
    · rw [tones_even _ (by omega), tones_even r ho]
theorem ones_full : ∀ a, ones (2 ^ a - 1) = a
  | 0 => ones_zero
  | a + 1 => by
    have hp := Nat.two_pow_pos a
    rw [ones_half, show (2 ^ (a + 1) - 1) / 2 = 2 ^ a - 1 by rw [Nat.pow_succ]; omega, ones_full a, show (2 ^ (a + 1) - 1) % 2 = 1 by rw [Nat.pow_succ]; omega]
    omega
/-- a leaf more -/
def grow (H : List Str) (x : Str) (n : Nat) : List Str := H.take (H.length - tones n) ++ [(H.drop (H.length - tones n)).foldr node x]
theorem fold_full (x : Str) : ∀ (a : Nat) (L : List Str), L.length = 2 ^ a - 1 → (peaks L).foldr node x = root (L ++ [x])
  | 0, L, h => by
    obtain rfl : L = [] := List.eq_nil_of_length_eq_zero (by simpa using h)
    rw [peaks_nil]
    exact (root_one x).symm
  | a + 1, L, h => by
    have hp := Nat.two_pow_pos a
    rw [Nat.pow_succ] at h
    have hd : (L.drop (2 ^ a)).length = 2 ^ a - 1 := by rw [List.length_drop]; omega
    rw [peaks_cons L a (2 ^ a - 1) (by omega) (by omega), List.foldr_cons, fold_full x a _ hd, root_pow (L ++ [x]) a (by rw [List.length_append, Nat.pow_succ]; simp; omega), List.take_append_of_le_length (by omega), List.drop_append_of_le_length (by omega)]
theorem grow_peaks (x : Str) (L : List Str) : grow (peaks L) x L.length = peaks (L ++ [x]) := by
  refine peaks_ind (M := fun L => grow (peaks L) x L.length = peaks (L ++ [x])) ?_ (fun L a r h1 h2 ih => ?_) L
  · show grow (peaks []) x 0 = peaks [x]
    rw [peaks_nil, peaks_cons [x] 0 0 rfl (by decide)]
    have e : grow [] x 0 = [x] := by unfold grow; simp
    rw [e]
    show [x] = root [x] :: peaks []
    rw [root_one, peaks_nil]
  · have hp := Nat.two_pow_pos a
    show grow (peaks L) x L.length = peaks (L ++ [x])
    by_cases hf : r + 1 < 2 ^ a
    · have hdl : (L.drop (2 ^ a)).length = r := by rw [List.length_drop]; omega
      rw [peaks_cons (L ++ [x]) a (r + 1) (by simp; omega) hf, List.take_append_of_le_length (by omega), List.drop_append_of_le_length (by omega), ← ih, hdl]
      have hpl := peaks_length (L.drop (2 ^ a))
      rw [hdl] at hpl
      have ht := tones_le r
      rw [peaks_cons L a r h1 h2, h1]
      unfold grow
      rw [tones_add a r hf, List.length_cons, hpl, show ones r + 1 - tones r = (ones r - tones r) + 1 by omega, List.take_succ_cons, List.drop_succ_cons]
      rfl
    · have hr : r = 2 ^ a - 1 := by omega
      have hn : L.length = 2 ^ (a + 1) - 1 := by rw [Nat.pow_succ]; omega
      have hpl := peaks_length L
      rw [hn, ones_full] at hpl
      unfold grow
      rw [hn, tones_full, hpl, Nat.sub_self, List.take_zero, List.drop_zero, List.nil_append, fold_full x (a + 1) L hn]
      have hl : (L ++ [x]).length = 2 ^ (a + 1) + 0 := by rw [List.length_append, hn]; have := Nat.two_pow_pos (a + 1); simp; omega
      rw [peaks_cons (L ++ [x]) (a + 1) 0 hl (Nat.two_pow_pos _), List.take_of_length_le (by omega), List.drop_eq_nil_of_le (by omega), peaks_nil]
end Go.Proofs.Ytiklfjehhdbhfaa.Mk
