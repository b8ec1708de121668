/-
  Plain mathematics of the hash trees. Conditions: as said.
-/
import Derived.Test.YtiklfjehhdbhfaaShMath
namespace Go.Proofs.Ytiklfjehhdbhfaa.Mk
set_option linter.unusedVariables false

abbrev Str := List UInt8
def leaf (d : Str) : Str := Sh.sha (0 :: d)
def node (l r : Str) : Str := if l.length = 32 ∧ r.length = 32 then Sh.sha (1 :: (l ++ r)) else []
theorem node_len {l r : Str} (hl : l.length = 32) (hr : r.length = 32) : (node l r).length = 32 := by unfold node; rw [if_pos ⟨hl, hr⟩]; exact Sh.sha_length _
theorem node_nil_left (r : Str) : node [] r = [] := by unfold node; rw [if_neg (by simp)]
theorem node_nil_right (l : Str) : node l [] = [] := by unfold node; rw [if_neg (by simp)]
def split (n : Nat) : Nat := 2 ^ Nat.log2 (n - 1)
theorem split_pos (n : Nat) : 0 < split n := Nat.two_pow_pos _
theorem split_lt {n : Nat} (h : 2 ≤ n) : split n < n := by
  have := Nat.log2_self_le (n := n - 1) (by omega)
  unfold split
  omega
theorem split_ge {n : Nat} (h : 2 ≤ n) : n ≤ 2 * split n := by
  have := Nat.lt_log2_self (n := n - 1)
  unfold split
  rw [Nat.pow_succ] at this
  omega
/-- the split is the power of two that lies so -/
theorem split_unique {n k : Nat} (h : 2 ≤ n) (j : Nat) (hk : k = 2 ^ j) (h1 : k < n) (h2 : n ≤ 2 * k) : split n = k := by
  subst hk
  unfold split
  congr 1
  have h3 : 2 ^ j ≤ n - 1 := by omega
  have h4 : n - 1 < 2 ^ (j + 1) := by rw [Nat.pow_succ]; omega
  have a := (Nat.le_log2 (n := n - 1) (k := j) (by omega)).2 h3
  have b := (Nat.log2_lt (n := n - 1) (k := j + 1) (by omega)).2 h4
  omega
/-- the root of leaf hashes -/
def root (L : List Str) : Str :=
  if h : L.length < 2 then L.headD (Sh.sha []) else node (root (L.take (split L.length))) (root (L.drop (split L.length)))
termination_by L.length
decreasing_by
  · have := split_lt (n := L.length) (by omega); rw [List.length_take]; omega
  · have := split_pos L.length; rw [List.length_drop]; omega
theorem root_nil : root [] = Sh.sha [] := by rw [root, dif_pos (by decide)]; rfl
theorem root_one (x : Str) : root [x] = x := by rw [root, dif_pos (by simp)]; rfl
theorem root_split (L : List Str) (h : 2 ≤ L.length) : root L = node (root (L.take (split L.length))) (root (L.drop (split L.length))) := by
  rw [root, dif_neg (by omega)]
/-- all are digests -/
def AllD (L : List Str) : Prop := ∀ x ∈ L, x.length = 32
theorem AllD.take {L : List Str} (h : AllD L) (k : Nat) : AllD (L.take k) := fun x hx => h x (List.mem_of_mem_take hx)
theorem AllD.drop {L : List Str} (h : AllD L) (k : Nat) : AllD (L.drop k) := fun x hx => h x (List.mem_of_mem_drop hx)
theorem AllD.append {L M : List Str} (h : AllD L) (k : AllD M) : AllD (L ++ M) := fun x hx => by
  rcases List.mem_append.1 hx with hx | hx
  · exact h x hx
  · exact k x hx
theorem AllD.one {x : Str} (h : x.length = 32) : AllD [x] := fun y hy => by simp at hy; subst hy; exact h
theorem AllD.nil : AllD [] := fun y hy => by cases hy
theorem root_len : ∀ (n : Nat) (L : List Str), L.length ≤ n → AllD L → (root L).length = 32
  | n, [], _, _ => by rw [root_nil]; exact Sh.sha_length _
  | n, [x], _, h => by rw [root_one]; exact h x (by simp)
  | 0, x :: y :: L, hn, _ => by simp at hn
  | n + 1, x :: y :: L, hn, h => by
    have h2 : 2 ≤ (x :: y :: L).length := by simp
    rw [root_split _ h2]
    have h3 := split_lt h2
    have h4 := split_pos (x :: y :: L).length
    exact node_len (root_len n _ (by rw [List.length_take]; omega) (h.take _)) (root_len n _ (by rw [List.length_drop]; omega) (h.drop _))
theorem rootD {L : List Str} (h : AllD L) : (root L).length = 32 := root_len L.length L (Nat.le_refl _) h
/-- the inclusion proof of a leaf -/
def incl (L : List Str) (i : Nat) : List Str :=
  if h : L.length < 2 then [] else
    if i < split L.length then incl (L.take (split L.length)) i ++ [root (L.drop (split L.length))]
    else incl (L.drop (split L.length)) (i - split L.length) ++ [root (L.take (split L.length))]
termination_by L.length
decreasing_by
  · have := split_lt (n := L.length) (by omega); rw [List.length_take]; omega
  · have := split_pos L.length; rw [List.length_drop]; omega
theorem incl_one (L : List Str) (i : Nat) (h : L.length < 2) : incl L i = [] := by rw [incl, dif_pos h]
theorem incl_left (L : List Str) (i : Nat) (h : 2 ≤ L.length) (hi : i < split L.length) : incl L i = incl (L.take (split L.length)) i ++ [root (L.drop (split L.length))] := by rw [incl, dif_neg (by omega), if_pos hi]
theorem incl_right (L : List Str) (i : Nat) (h : 2 ≤ L.length) (hi : ¬ i < split L.length) : incl L i = incl (L.drop (split L.length)) (i - split L.length) ++ [root (L.take (split L.length))] := by rw [incl, dif_neg (by omega), if_neg hi]
/-- the consistency proof of the first leaves -/
def cons (L : List Str) (m : Nat) (b : Bool) : List Str :=
  if m = L.length then (if b then [] else [root L]) else
  if h : L.length < 2 then [] else
    if m ≤ split L.length then cons (L.take (split L.length)) m b ++ [root (L.drop (split L.length))]
    else cons (L.drop (split L.length)) (m - split L.length) false ++ [root (L.take (split L.length))]
termination_by L.length
decreasing_by
  · have := split_lt (n := L.length) (by omega); rw [List.length_take]; omega
  · have := split_pos L.length; rw [List.length_drop]; omega
theorem cons_whole (L : List Str) (b : Bool) : cons L L.length b = if b then [] else [root L] := by rw [cons, if_pos rfl]
theorem cons_left (L : List Str) (m : Nat) (b : Bool) (h : 2 ≤ L.length) (hm : m ≠ L.length) (hi : m ≤ split L.length) : cons L m b = cons (L.take (split L.length)) m b ++ [root (L.drop (split L.length))] := by rw [cons, if_neg hm, dif_neg (by omega), if_pos hi]
theorem cons_right (L : List Str) (m : Nat) (b : Bool) (h : 2 ≤ L.length) (hm : m ≠ L.length) (hi : ¬ m ≤ split L.length) : cons L m b = cons (L.drop (split L.length)) (m - split L.length) false ++ [root (L.take (split L.length))] := by rw [cons, if_neg hm, dif_neg (by omega), if_neg hi]
/-- the root that an inclusion proof gives, and whether it has the right length -/
def given (x : Str) (i n : Nat) (P : List Str) : Str × Bool :=
  if h : n < 2 then (x, P.isEmpty) else
  if P = [] then ([], false) else
    if i < split n then (node (given x i (split n) P.dropLast).1 (P.getLastD []), (given x i (split n) P.dropLast).2)
    else (node (P.getLastD []) (given x (i - split n) (n - split n) P.dropLast).1, (given x (i - split n) (n - split n) P.dropLast).2)
termination_by n
decreasing_by
  all_goals first
    | exact split_lt (by omega)
    | (have := split_pos n; omega)
theorem given_one (x : Str) (i n : Nat) (P : List Str) (h : n < 2) : given x i n P = (x, P.isEmpty) := by rw [given, dif_pos h]
theorem given_nil (x : Str) (i n : Nat) (h : 2 ≤ n) : given x i n [] = ([], false) := by rw [given, dif_neg (by omega), if_pos rfl]
theorem given_left (x : Str) (i n : Nat) (P : List Str) (q : Str) (h : 2 ≤ n) (hi : i < split n) : given x i n (P ++ [q]) = (node (given x i (split n) P).1 q, (given x i (split n) P).2) := by
  rw [given, dif_neg (by omega), if_neg (by simp), if_pos hi, List.dropLast_concat, List.getLastD_concat]
theorem given_right (x : Str) (i n : Nat) (P : List Str) (q : Str) (h : 2 ≤ n) (hi : ¬ i < split n) : given x i n (P ++ [q]) = (node q (given x (i - split n) (n - split n) P).1, (given x (i - split n) (n - split n) P).2) := by
  rw [given, dif_neg (by omega), if_neg (by simp), if_neg hi, List.dropLast_concat, List.getLastD_concat]
/-- the roots that a consistency proof gives -/
def rd (m n : Nat) (w : Str) (P : List Str) : (Str × Str) × Bool :=
  if m = n then (if w ≠ [] then ((w, w), P.isEmpty) else if P.length ≠ 1 then (([], []), false) else ((P.headD [], P.headD []), true)) else
  if h : n < 2 then (([], []), false) else
  if P = [] then (([], []), false) else
    if m ≤ split n then (((rd m (split n) w P.dropLast).1.1, node (rd m (split n) w P.dropLast).1.2 (P.getLastD [])), (rd m (split n) w P.dropLast).2)
    else ((node (P.getLastD []) (rd (m - split n) (n - split n) [] P.dropLast).1.1, node (P.getLastD []) (rd (m - split n) (n - split n) [] P.dropLast).1.2), (rd (m - split n) (n - split n) [] P.dropLast).2)
termination_by n
decreasing_by
  all_goals first
    | exact split_lt (by omega)
    | (have := split_pos n; omega)
theorem rd_same (n : Nat) (w : Str) (P : List Str) : rd n n w P = if w ≠ [] then ((w, w), P.isEmpty) else if P.length ≠ 1 then (([], []), false) else ((P.headD [], P.headD []), true) := by rw [rd, if_pos rfl]
theorem rd_nil (m n : Nat) (w : Str) (h : 2 ≤ n) (hm : m ≠ n) : rd m n w [] = (([], []), false) := by rw [rd, if_neg hm, dif_neg (by omega), if_pos rfl]
theorem rd_left (m n : Nat) (w : Str) (P : List Str) (q : Str) (h : 2 ≤ n) (hm : m ≠ n) (hi : m ≤ split n) : rd m n w (P ++ [q]) = (((rd m (split n) w P).1.1, node (rd m (split n) w P).1.2 q), (rd m (split n) w P).2) := by
  rw [rd, if_neg hm, dif_neg (by omega), if_neg (by simp), if_pos hi, List.dropLast_concat, List.getLastD_concat]
theorem rd_right (m n : Nat) (w : Str) (P : List Str) (q : Str) (h : 2 ≤ n) (hm : m ≠ n) (hi : ¬ m ≤ split n) : rd m n w (P ++ [q]) = ((node q (rd (m - split n) (n - split n) [] P).1.1, node q (rd (m - split n) (n - split n) [] P).1.2), (rd (m - split n) (n - split n) [] P).2) := by
  rw [rd, if_neg hm, dif_neg (by omega), if_neg (by simp), if_neg hi, List.dropLast_concat, List.getLastD_concat]
theorem snoc_cases {α : Type} (P : List α) : P = [] ∨ ∃ Q q, P = Q ++ [q] := by
  rcases List.eq_nil_or_concat P with h | ⟨Q, q, h⟩
  · exact .inl h
  · exact .inr ⟨Q, q, by simpa using h⟩

/-! ### what the proofs prove -/
theorem incl_dig : ∀ (n : Nat) (L : List Str) (i : Nat), L.length ≤ n → AllD L → AllD (incl L i)
  | n, L, i, hn, h => by
    by_cases h2 : L.length < 2
    · rw [incl_one L i h2]; exact .nil
    · match n with
      | 0 => omega
      | n + 1 =>
        have h3 := split_lt (n := L.length) (by omega)
        have h4 := split_pos L.length
        by_cases hi : i < split L.length
        · rw [incl_left L i (by omega) hi]
          exact (incl_dig n _ i (by rw [List.length_take]; omega) (h.take _)).append (.one (rootD (h.drop _)))
        · rw [incl_right L i (by omega) hi]
          exact (incl_dig n _ _ (by rw [List.length_drop]; omega) (h.drop _)).append (.one (rootD (h.take _)))
theorem take_len {L : List Str} {k : Nat} (h : k ≤ L.length) : (L.take k).length = k := by rw [List.length_take]; omega
/-- the inclusion proof gives the root -/
theorem given_incl : ∀ (n : Nat) (L : List Str) (i : Nat), L.length = n → i < n → given (L.getD i []) i n (incl L i) = (root L, true) := by
  intro n
  induction n using Nat.strongRecOn with
  | _ n ih =>
    intro L i hn hi
    by_cases h2 : n < 2
    · rw [incl_one L i (by omega), given_one _ _ _ _ h2]
      have : L.length = 1 := by omega
      obtain ⟨x, rfl⟩ := List.length_eq_one_iff.1 this
      obtain rfl : i = 0 := by omega
      rw [root_one]
      rfl
    · have h3 := split_lt (n := n) (by omega)
      have h4 := split_pos n
      by_cases hk : i < split n
      · rw [incl_left L i (by omega) (by rw [hn]; exact hk), given_left _ _ _ _ _ (by omega) hk, hn]
        have e := ih (split n) h3 (L.take (split n)) i (take_len (by omega)) hk
        have e2 : (L.take (split n)).getD i [] = L.getD i [] := by simp [List.getD_eq_getElem?_getD, hk]
        rw [e2] at e
        rw [e, root_split L (by omega), hn]
      · rw [incl_right L i (by omega) (by rw [hn]; exact hk), given_right _ _ _ _ _ (by omega) hk, hn]
        have e := ih (n - split n) (by omega) (L.drop (split n)) (i - split n) (by rw [List.length_drop, hn]) (by omega)
        have e2 : (L.drop (split n)).getD (i - split n) [] = L.getD i [] := by
          simp only [List.getD_eq_getElem?_getD, List.getElem?_drop]
          congr 2
          omega
        rw [e2] at e
        rw [e, root_split L (by omega), hn]
/-- how many elements an inclusion proof has -/
def depth (i n : Nat) : Nat :=
  if h : n < 2 then 0 else if i < split n then depth i (split n) + 1 else depth (i - split n) (n - split n) + 1
termination_by n
decreasing_by
  · exact split_lt (by omega)
  · have := split_pos n; omega
theorem depth_one (i n : Nat) (h : n < 2) : depth i n = 0 := by rw [depth, dif_pos h]
theorem depth_left (i n : Nat) (h : 2 ≤ n) (hi : i < split n) : depth i n = depth i (split n) + 1 := by rw [depth, dif_neg (by omega), if_pos hi]
theorem depth_right (i n : Nat) (h : 2 ≤ n) (hi : ¬ i < split n) : depth i n = depth (i - split n) (n - split n) + 1 := by rw [depth, dif_neg (by omega), if_neg hi]
theorem incl_length : ∀ (n : Nat) (L : List Str) (i : Nat), L.length = n → (incl L i).length = depth i n := by
  intro n
  induction n using Nat.strongRecOn with
  | _ n ih =>
    intro L i hn
    by_cases h2 : n < 2
    · rw [incl_one L i (by omega), depth_one i n h2]; rfl
    · have h3 := split_lt (n := n) (by omega)
      have h4 := split_pos n
      by_cases hk : i < split n
      · rw [incl_left L i (by omega) (by rw [hn]; exact hk), depth_left i n (by omega) hk, List.length_append, hn, ih (split n) h3 _ i (take_len (by omega))]
        rfl
      · rw [incl_right L i (by omega) (by rw [hn]; exact hk), depth_right i n (by omega) hk, List.length_append, hn, ih (n - split n) (by omega) _ _ (by rw [List.length_drop, hn])]
        rfl
theorem given_ok : ∀ (n : Nat) (x : Str) (i : Nat) (P : List Str), (given x i n P).2 = decide (P.length = depth i n) := by
  intro n
  induction n using Nat.strongRecOn with
  | _ n ih =>
    intro x i P
    by_cases h2 : n < 2
    · rw [given_one _ _ _ _ h2, depth_one i n h2]
      cases P <;> simp
    · have h3 := split_lt (n := n) (by omega)
      have h4 := split_pos n
      rcases snoc_cases P with rfl | ⟨Q, q, rfl⟩
      · rw [given_nil _ _ _ (by omega)]
        by_cases hk : i < split n
        · rw [depth_left i n (by omega) hk]; simp
        · rw [depth_right i n (by omega) hk]; simp
      · by_cases hk : i < split n
        · rw [given_left _ _ _ _ _ (by omega) hk, depth_left i n (by omega) hk]
          show (given x i (split n) Q).2 = _
          rw [ih (split n) h3]
          simp
        · rw [given_right _ _ _ _ _ (by omega) hk, depth_right i n (by omega) hk]
          show (given x (i - split n) (n - split n) Q).2 = _
          rw [ih (n - split n) (by omega)]
          simp
end Go.Proofs.Ytiklfjehhdbhfaa.Mk
