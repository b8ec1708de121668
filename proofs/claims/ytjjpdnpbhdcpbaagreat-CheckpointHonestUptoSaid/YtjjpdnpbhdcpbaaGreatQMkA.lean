/-
  strings.Join with the empty separator, by the shelf's contract. Conditions: at most 2^47 bytes together.
-/
import Derived.Test.YtjjpdnpbhdcpbaaGreatLayJ
import Derived.Test.YtjjpdnpbhdcpbaaGreatQBase
import Derived.Test.YtjjpdnpbhdcpbaaGreatQShaA
import Derived.Test.YtjjpdnpbhdcpbaaGreatQShaB
import Derived.Test.YtjjpdnpbhdcpbaaGreatLayL
import Derived.Deep.RegionHeld3
namespace Go.Proofs.YtjjpdnpbhdcpbaaGreat
set_option linter.unusedVariables false
open Go.RowKit Go.Shelf
theorem join_extra : Builder.Extra Tryz.prog Tryz.laysJoin_ren where
 sizeBuilder := by kernel_rfl
 liesBuilder := by kernel_rfl
 t5 := Tryz.underlying5
 a5 := Tryz.isAgg5
 z5 := Tryz.sizeOf5
 v5 := Tryz.zeroValue5
 infoByte := by kernel_rfl
 cellsByte := by kernel_rfl
 sizeByte := by kernel_rfl
 neB5 := by decide
theorem join_f : Tryz.laysJoin_ren.f 156 = 185 := by kernel_rfl
theorem join_flat (L : List (List UInt8)) : Lib.join ((L.map fun s => (⟨s.toArray⟩ : ByteArray)).map (·.data.toList)) [] = L.flatten := by
 have e : (L.map fun s => (⟨s.toArray⟩ : ByteArray)).map (·.data.toList) = L := by
  rw [List.map_map]
  conv => rhs; rw [← List.map_id L]
  rfl
 rw [e]
 induction L with
 | nil => rfl
 | cons x L ih =>
   have h : ∀ (r : List (List UInt8)), Lib.joinTail [] r = r.flatten := fun r => by unfold Lib.joinTail; simp
   rw [Lib.join_cons, h]
   rfl
theorem join_spec (A : Option Addr) (L : List (List UInt8)) (c : Nat) (w : World) (hR : Rd w A (strs L)) (hc : L.length ≤ c) (hl : weight L ≤ 140737488355328) :
 Calls Tryz.prog 185 #[.slice A L.length c, .string .empty] w fun e w' => e = .returned (.string ⟨L.flatten.toArray⟩) ∧ Below w.heap.size w w' := by
 by_cases hL : L = []
 ·subst hL
  have h := Any.strings_Join_none Tryz.laysJoin join_extra A c .empty w
  rw [join_f] at h
  exact h.mono fun e w' ⟨he, hw⟩ => ⟨he, hw ▸ Below.refl _ _⟩
 ·rcases hR with hR | ⟨b, off, rfl, hcell⟩
  ·exact absurd (List.eq_nil_of_length_eq_zero (by have := congrArg List.length hR; simpa [strs] using this)) hL
  ·have hpos : 0 < L.length := by cases L; exact absurd rfl hL; simp
   have hb := World.block_lt_of_cell? w _ (hcell 0 (by rw [strs_length]; exact hpos))
   have hj := join_flat L
   have hfl : L.flatten.length = (L.map List.length).sum := List.length_flatten
   have h := Any.strings_Join Tryz.laysJoin join_extra b off c (L.map fun s => (⟨s.toArray⟩ : ByteArray)) .empty w (fun j x hx => by
    have hj : j < L.length := by
     have := (List.getElem?_eq_some_iff.1 hx).1
     simpa using this
    rw [hcell j (by rw [strs_length]; exact hj), strs_get]
    simp [hj] at hx
    rw [← hx]) hb (by rw [List.length_map]; unfold weight at hl; omega) (by rw [List.length_map]; exact hc) (by
     show (Lib.join _ []).length ≤ _
     rw [hj, hfl]; unfold weight at hl; omega)
   rw [join_f, List.length_map] at h
   refine h.mono fun e w' ⟨he, hw⟩ => ⟨?_, hw⟩
   rw [he]
   show Ending.returned (.string ⟨(Lib.join _ []).toArray⟩) = _
   rw [hj]
end Go.Proofs.YtjjpdnpbhdcpbaaGreat
namespace Go.Proofs.YtjjpdnpbhdcpbaaGreat.Mk
set_option linter.unusedVariables false
abbrev Str := List UInt8
def leaf (d : Str) : Str := Sh.sha (0 :: d)
def node (l r : Str) : Str := if l.length = 32 ∧ r.length = 32 then Sh.sha (1 :: (l ++ r)) else []
theorem node_len {l r : Str} (hl : l.length = 32) (hr : r.length = 32) : (node l r).length = 32 := by unfold node; rw [if_pos ⟨hl, hr⟩]; exact Sh.sha_length _
def split (n : Nat) : Nat := 2 ^ Nat.log2 (n - 1)
theorem split_pos (n : Nat) : 0 < split n := Nat.two_pow_pos _
theorem split_lt {n : Nat} (h : 2 ≤ n) : split n < n := by
 have := Nat.log2_self_le (n := n - 1) (by omega)
 unfold split
 omega
theorem split_ge {n : Nat} (h : 2 ≤ n) : n ≤ 2 * split n := by
 have := Nat.lt_log2_self (n := n - 1)
 unfold split
 rw [Nat.pow_succ] at this
 omega
theorem split_unique {n k : Nat} (h : 2 ≤ n) (j : Nat) (hk : k = 2 ^ j) (h1 : k < n) (h2 : n ≤ 2 * k) : split n = k := by
 subst hk
 unfold split
 congr 1
 have h3 : 2 ^ j ≤ n - 1 := by omega
 have h4 : n - 1 < 2 ^ (j + 1) := by rw [Nat.pow_succ]; omega
 have a := (Nat.le_log2 (n := n - 1) (k := j) (by omega)).2 h3
 have b := (Nat.log2_lt (n := n - 1) (k := j + 1) (by omega)).2 h4
 omega
def root (L : List Str) : Str :=
 if h : L.length < 2 then L.headD (Sh.sha []) else node (root (L.take (split L.length))) (root (L.drop (split L.length)))
termination_by L.length
decreasing_by
 ·have := split_lt (n := L.length) (by omega); rw [List.length_take]; omega
 ·have := split_pos L.length; rw [List.length_drop]; omega
theorem root_nil : root [] = Sh.sha [] := by rw [root, dif_pos (by decide)]; rfl
theorem root_one (x : Str) : root [x] = x := by rw [root, dif_pos (by simp)]; rfl
theorem root_split (L : List Str) (h : 2 ≤ L.length) : root L = node (root (L.take (split L.length))) (root (L.drop (split L.length))) := by
 rw [root, dif_neg (by omega)]
def AllD (L : List Str) : Prop := ∀ x ∈ L, x.length = 32
theorem AllD.take {L : List Str} (h : AllD L) (k : Nat) : AllD (L.take k) := fun x hx => h x (List.mem_of_mem_take hx)
theorem AllD.drop {L : List Str} (h : AllD L) (k : Nat) : AllD (L.drop k) := fun x hx => h x (List.mem_of_mem_drop hx)
theorem AllD.append {L M : List Str} (h : AllD L) (k : AllD M) : AllD (L ++ M) := fun x hx => by
 rcases List.mem_append.1 hx with hx | hx
 ·exact h x hx
 ·exact k x hx
theorem AllD.one {x : Str} (h : x.length = 32) : AllD [x] := fun y hy => by simp at hy; subst hy; exact h
theorem AllD.nil : AllD [] := fun y hy => by cases hy
theorem root_len : ∀ (n : Nat) (L : List Str), L.length ≤ n → AllD L → (root L).length = 32
 | n, [], _, _ => by rw [root_nil]; exact Sh.sha_length _
 | n, [x], _, h => by rw [root_one]; exact h x (by simp)
 | 0, x :: y :: L, hn, _ => by simp at hn
 | n + 1, x :: y :: L, hn, h => by
   have h2 : 2 ≤ (x :: y :: L).length := by simp
   rw [root_split _ h2]
   have h3 := split_lt h2
   have h4 := split_pos (x :: y :: L).length
   exact node_len (root_len n _ (by rw [List.length_take]; omega) (h.take _)) (root_len n _ (by rw [List.length_drop]; omega) (h.drop _))
theorem rootD {L : List Str} (h : AllD L) : (root L).length = 32 := root_len L.length L (Nat.le_refl _) h
def incl (L : List Str) (i : Nat) : List Str :=
 if h : L.length < 2 then [] else
  if i < split L.length then incl (L.take (split L.length)) i ++ [root (L.drop (split L.length))]
  else incl (L.drop (split L.length)) (i - split L.length) ++ [root (L.take (split L.length))]
termination_by L.length
decreasing_by
 ·have := split_lt (n := L.length) (by omega); rw [List.length_take]; omega
 ·have := split_pos L.length; rw [List.length_drop]; omega
theorem incl_one (L : List Str) (i : Nat) (h : L.length < 2) : incl L i = [] := by rw [incl, dif_pos h]
theorem incl_left (L : List Str) (i : Nat) (h : 2 ≤ L.length) (hi : i < split L.length) : incl L i = incl (L.take (split L.length)) i ++ [root (L.drop (split L.length))] := by rw [incl, dif_neg (by omega), if_pos hi]
theorem incl_right (L : List Str) (i : Nat) (h : 2 ≤ L.length) (hi : ¬ i < split L.length) : incl L i = incl (L.drop (split L.length)) (i - split L.length) ++ [root (L.take (split L.length))] := by rw [incl, dif_neg (by omega), if_neg hi]
def cons (L : List Str) (m : Nat) (b : Bool) : List Str :=
 if m = L.length then (if b then [] else [root L]) else
 if h : L.length < 2 then [] else
  if m ≤ split L.length then cons (L.take (split L.length)) m b ++ [root (L.drop (split L.length))]
  else cons (L.drop (split L.length)) (m - split L.length) false ++ [root (L.take (split L.length))]
termination_by L.length
decreasing_by
 ·have := split_lt (n := L.length) (by omega); rw [List.length_take]; omega
 ·have := split_pos L.length; rw [List.length_drop]; omega
theorem cons_whole (L : List Str) (b : Bool) : cons L L.length b = if b then [] else [root L] := by rw [cons, if_pos rfl]
theorem cons_left (L : List Str) (m : Nat) (b : Bool) (h : 2 ≤ L.length) (hm : m ≠ L.length) (hi : m ≤ split L.length) : cons L m b = cons (L.take (split L.length)) m b ++ [root (L.drop (split L.length))] := by rw [cons, if_neg hm, dif_neg (by omega), if_pos hi]
theorem cons_right (L : List Str) (m : Nat) (b : Bool) (h : 2 ≤ L.length) (hm : m ≠ L.length) (hi : ¬ m ≤ split L.length) : cons L m b = cons (L.drop (split L.length)) (m - split L.length) false ++ [root (L.take (split L.length))] := by rw [cons, if_neg hm, dif_neg (by omega), if_neg hi]
def given (x : Str) (i n : Nat) (P : List Str) : Str × Bool :=
 if h : n < 2 then (x, P.isEmpty) else
 if P = [] then ([], false) else
  if i < split n then (node (given x i (split n) P.dropLast).1 (P.getLastD []), (given x i (split n) P.dropLast).2)
  else (node (P.getLastD []) (given x (i - split n) (n - split n) P.dropLast).1, (given x (i - split n) (n - split n) P.dropLast).2)
termination_by n
decreasing_by
 all_goals first
  | exact split_lt (by omega)
  | (have := split_pos n; omega)
theorem given_one (x : Str) (i n : Nat) (P : List Str) (h : n < 2) : given x i n P = (x, P.isEmpty) := by rw [given, dif_pos h]
theorem given_nil (x : Str) (i n : Nat) (h : 2 ≤ n) : given x i n [] = ([], false) := by rw [given, dif_neg (by omega), if_pos rfl]
theorem given_left (x : Str) (i n : Nat) (P : List Str) (q : Str) (h : 2 ≤ n) (hi : i < split n) : given x i n (P ++ [q]) = (node (given x i (split n) P).1 q, (given x i (split n) P).2) := by
 rw [given, dif_neg (by omega), if_neg (by simp), if_pos hi, List.dropLast_concat, List.getLastD_concat]
theorem given_right (x : Str) (i n : Nat) (P : List Str) (q : Str) (h : 2 ≤ n) (hi : ¬ i < split n) : given x i n (P ++ [q]) = (node q (given x (i - split n) (n - split n) P).1, (given x (i - split n) (n - split n) P).2) := by
 rw [given, dif_neg (by omega), if_neg (by simp), if_neg hi, List.dropLast_concat, List.getLastD_concat]
def rd (m n : Nat) (w : Str) (P : List Str) : (Str × Str) × Bool :=
 if m = n then (if w ≠ [] then ((w, w), P.isEmpty) else if P.length ≠ 1 then (([], []), false) else ((P.headD [], P.headD []), true)) else
 if h : n < 2 then (([], []), false) else
 if P = [] then (([], []), false) else
  if m ≤ split n then (((rd m (split n) w P.dropLast).1.1, node (rd m (split n) w P.dropLast).1.2 (P.getLastD [])), (rd m (split n) w P.dropLast).2)
  else ((node (P.getLastD []) (rd (m - split n) (n - split n) [] P.dropLast).1.1, node (P.getLastD []) (rd (m - split n) (n - split n) [] P.dropLast).1.2), (rd (m - split n) (n - split n) [] P.dropLast).2)
termination_by n
decreasing_by
 all_goals first
  | exact split_lt (by omega)
  | (have := split_pos n; omega)
theorem rd_same (n : Nat) (w : Str) (P : List Str) : rd n n w P = if w ≠ [] then ((w, w), P.isEmpty) else if P.length ≠ 1 then (([], []), false) else ((P.headD [], P.headD []), true) := by rw [rd, if_pos rfl]
theorem rd_nil (m n : Nat) (w : Str) (h : 2 ≤ n) (hm : m ≠ n) : rd m n w [] = (([], []), false) := by rw [rd, if_neg hm, dif_neg (by omega), if_pos rfl]
theorem rd_left (m n : Nat) (w : Str) (P : List Str) (q : Str) (h : 2 ≤ n) (hm : m ≠ n) (hi : m ≤ split n) : rd m n w (P ++ [q]) = (((rd m (split n) w P).1.1, node (rd m (split n) w P).1.2 q), (rd m (split n) w P).2) := by
 rw [rd, if_neg hm, dif_neg (by omega), if_neg (by simp), if_pos hi, List.dropLast_concat, List.getLastD_concat]
theorem rd_right (m n : Nat) (w : Str) (P : List Str) (q : Str) (h : 2 ≤ n) (hm : m ≠ n) (hi : ¬ m ≤ split n) : rd m n w (P ++ [q]) = ((node q (rd (m - split n) (n - split n) [] P).1.1, node q (rd (m - split n) (n - split n) [] P).1.2), (rd (m - split n) (n - split n) [] P).2) := by
 rw [rd, if_neg hm, dif_neg (by omega), if_neg (by simp), if_neg hi, List.dropLast_concat, List.getLastD_concat]
theorem snoc_cases {α : Type} (P : List α) : P = [] ∨ ∃ Q q, P = Q ++ [q] := by
 rcases List.eq_nil_or_concat P with h | ⟨Q, q, h⟩
 ·exact .inl h
 ·exact .inr ⟨Q, q, by simpa using h⟩
theorem incl_dig : ∀ (n : Nat) (L : List Str) (i : Nat), L.length ≤ n → AllD L → AllD (incl L i)
 | n, L, i, hn, h => by
   by_cases h2 : L.length < 2
   ·rw [incl_one L i h2]; exact .nil
   ·match n with
    | 0 => omega
    | n + 1 =>
      have h3 := split_lt (n := L.length) (by omega)
      have h4 := split_pos L.length
      by_cases hi : i < split L.length
      ·rw [incl_left L i (by omega) hi]
       exact (incl_dig n _ i (by rw [List.length_take]; omega) (h.take _)).append (.one (rootD (h.drop _)))
      ·rw [incl_right L i (by omega) hi]
       exact (incl_dig n _ _ (by rw [List.length_drop]; omega) (h.drop _)).append (.one (rootD (h.take _)))
theorem take_len {L : List Str} {k : Nat} (h : k ≤ L.length) : (L.take k).length = k := by rw [List.length_take]; omega
theorem given_incl : ∀ (n : Nat) (L : List Str) (i : Nat), L.length = n → i < n → given (L.getD i []) i n (incl L i) = (root L, true) := by
 intro n
 induction n using Nat.strongRecOn with
 | _ n ih =>
   intro L i hn hi
   by_cases h2 : n < 2
   ·rw [incl_one L i (by omega), given_one _ _ _ _ h2]
    have : L.length = 1 := by omega
    obtain ⟨x, rfl⟩ := List.length_eq_one_iff.1 this
    obtain rfl : i = 0 := by omega
    rw [root_one]
    rfl
   ·have h3 := split_lt (n := n) (by omega)
    have h4 := split_pos n
    by_cases hk : i < split n
    ·rw [incl_left L i (by omega) (by rw [hn]; exact hk), given_left _ _ _ _ _ (by omega) hk, hn]
     have e := ih (split n) h3 (L.take (split n)) i (take_len (by omega)) hk
     have e2 : (L.take (split n)).getD i [] = L.getD i [] := by simp [List.getD_eq_getElem?_getD, hk]
     rw [e2] at e
     rw [e, root_split L (by omega), hn]
    ·rw [incl_right L i (by omega) (by rw [hn]; exact hk), given_right _ _ _ _ _ (by omega) hk, hn]
     have e := ih (n - split n) (by omega) (L.drop (split n)) (i - split n) (by rw [List.length_drop, hn]) (by omega)
     have e2 : (L.drop (split n)).getD (i - split n) [] = L.getD i [] := by
      simp only [List.getD_eq_getElem?_getD, List.getElem?_drop]
      congr 2
      omega
     rw [e2] at e
     rw [e, root_split L (by omega), hn]
def depth (i n : Nat) : Nat :=
 if h : n < 2 then 0 else if i < split n then depth i (split n) + 1 else depth (i - split n) (n - split n) + 1
termination_by n
decreasing_by
 ·exact split_lt (by omega)
 ·have := split_pos n; omega
theorem depth_one (i n : Nat) (h : n < 2) : depth i n = 0 := by rw [depth, dif_pos h]
theorem depth_left (i n : Nat) (h : 2 ≤ n) (hi : i < split n) : depth i n = depth i (split n) + 1 := by rw [depth, dif_neg (by omega), if_pos hi]
theorem depth_right (i n : Nat) (h : 2 ≤ n) (hi : ¬ i < split n) : depth i n = depth (i - split n) (n - split n) + 1 := by rw [depth, dif_neg (by omega), if_neg hi]
theorem incl_length : ∀ (n : Nat) (L : List Str) (i : Nat), L.length = n → (incl L i).length = depth i n := by
 intro n
 induction n using Nat.strongRecOn with
 | _ n ih =>
   intro L i hn
   by_cases h2 : n < 2
   ·rw [incl_one L i (by omega), depth_one i n h2]; rfl
   ·have h3 := split_lt (n := n) (by omega)
    have h4 := split_pos n
    by_cases hk : i < split n
    ·rw [incl_left L i (by omega) (by rw [hn]; exact hk), depth_left i n (by omega) hk, List.length_append, hn, ih (split n) h3 _ i (take_len (by omega))]
     rfl
    ·rw [incl_right L i (by omega) (by rw [hn]; exact hk), depth_right i n (by omega) hk, List.length_append, hn, ih (n - split n) (by omega) _ _ (by rw [List.length_drop, hn])]
     rfl
end Go.Proofs.YtjjpdnpbhdcpbaaGreat.Mk
namespace Go.Proofs.YtjjpdnpbhdcpbaaGreat.Mk
set_option linter.unusedVariables false
theorem ne_of_len {x : Str} (h : x.length = 32) : x ≠ [] := fun e => by rw [e] at h; cases h
theorem cons_dig : ∀ (n : Nat) (L : List Str) (m : Nat) (b : Bool), L.length ≤ n → AllD L → AllD (cons L m b)
 | n, L, m, b, hn, h => by
   by_cases hm : m = L.length
   ·subst hm
    rw [cons_whole]
    cases b
    ·exact .one (rootD h)
    ·exact .nil
   by_cases h2 : L.length < 2
   ·rw [cons, if_neg hm, dif_pos h2]; exact .nil
   ·match n with
    | 0 => omega
    | n + 1 =>
      have h3 := split_lt (n := L.length) (by omega)
      have h4 := split_pos L.length
      by_cases hi : m ≤ split L.length
      ·rw [cons_left L m b (by omega) hm hi]
       exact (cons_dig n _ m b (by rw [List.length_take]; omega) (h.take _)).append (.one (rootD (h.drop _)))
      ·rw [cons_right L m b (by omega) hm hi]
       exact (cons_dig n _ _ _ (by rw [List.length_drop]; omega) (h.drop _)).append (.one (rootD (h.take _)))
def cdepth (m n : Nat) (b : Bool) : Nat :=
 if m = n then (if b then 0 else 1) else if h : n < 2 then 0 else if m ≤ split n then cdepth m (split n) b + 1 else cdepth (m - split n) (n - split n) false + 1
termination_by n
decreasing_by
 ·exact split_lt (by omega)
 ·have := split_pos n; omega
theorem cdepth_same (n : Nat) (b : Bool) : cdepth n n b = if b then 0 else 1 := by rw [cdepth, if_pos rfl]
theorem cdepth_left (m n : Nat) (b : Bool) (h : 2 ≤ n) (hm : m ≠ n) (hi : m ≤ split n) : cdepth m n b = cdepth m (split n) b + 1 := by rw [cdepth, if_neg hm, dif_neg (by omega), if_pos hi]
theorem cdepth_right (m n : Nat) (b : Bool) (h : 2 ≤ n) (hm : m ≠ n) (hi : ¬ m ≤ split n) : cdepth m n b = cdepth (m - split n) (n - split n) false + 1 := by rw [cdepth, if_neg hm, dif_neg (by omega), if_neg hi]
theorem cons_length : ∀ (n : Nat) (L : List Str) (m : Nat) (b : Bool), L.length = n → 1 ≤ m → m ≤ n → (cons L m b).length = cdepth m n b := by
 intro n
 induction n using Nat.strongRecOn with
 | _ n ih =>
   intro L m b hn h1 hmn
   by_cases hm : m = n
   ·subst hm
    rw [← hn, cons_whole, cdepth_same]
    cases b <;> rfl
   ·have h3 := split_lt (n := n) (by omega)
    have h4 := split_pos n
    by_cases hi : m ≤ split n
    ·rw [cons_left L m b (by omega) (by omega) (by rw [hn]; exact hi), cdepth_left m n b (by omega) hm hi, List.length_append, hn, ih (split n) h3 _ m b (take_len (by omega)) h1 hi]
     rfl
    ·rw [cons_right L m b (by omega) (by omega) (by rw [hn]; exact hi), cdepth_right m n b (by omega) hm hi, List.length_append, hn, ih (n - split n) (by omega) _ _ _ (by rw [List.length_drop, hn]) (by omega) (by omega)]
     rfl
theorem rd_cons : ∀ (n : Nat) (L : List Str) (m : Nat) (b : Bool), L.length = n → AllD L → 1 ≤ m → m ≤ n → rd m n (if b then root (L.take m) else []) (cons L m b) = ((root (L.take m), root L), true) := by
 intro n
 induction n using Nat.strongRecOn with
 | _ n ih =>
   intro L m b hn hd h1 hmn
   by_cases hm : m = n
   ·subst hm
    have ht : L.take L.length = L := List.take_length
    rw [← hn, cons_whole, rd_same, ht]
    cases b
    ·simp
    ·have := ne_of_len (rootD hd)
     simp [this]
   ·have h3 := split_lt (n := n) (by omega)
    have h4 := split_pos n
    have h5 := split_ge (n := n) (by omega)
    by_cases hi : m ≤ split n
    ·rw [cons_left L m b (by omega) (by omega) (by rw [hn]; exact hi), rd_left _ _ _ _ _ (by omega) hm hi, hn]
     have e := ih (split n) h3 (L.take (split n)) m b (take_len (by omega)) (hd.take _) h1 hi
     rw [List.take_take, Nat.min_eq_left hi] at e
     rw [e, root_split L (by omega), hn]
    ·rw [cons_right L m b (by omega) (by omega) (by rw [hn]; exact hi), rd_right _ _ _ _ _ (by omega) hm hi, hn]
     have e := ih (n - split n) (by omega) (L.drop (split n)) (m - split n) false (by rw [List.length_drop, hn]) (hd.drop _) (by omega) (by omega)
     simp only [Bool.false_eq_true, if_false] at e
     rw [e, root_split L (by omega), hn]
     have hl : (L.take m).length = m := take_len (by omega)
     have h2 : split m = split n := by
      refine split_unique (by omega) _ rfl ?_ ?_
      ·show split n < m; omega
      ·show m ≤ 2 * split n; omega
     rw [root_split (L.take m) (by omega), hl, h2, List.take_take, Nat.min_eq_left (by omega)]
     have : (L.drop (split n)).take (m - split n) = (L.take m).drop (split n) := by rw [List.drop_take]
     rw [this]
end Go.Proofs.YtjjpdnpbhdcpbaaGreat.Mk
namespace Go.Proofs.YtjjpdnpbhdcpbaaGreat
set_option linter.unusedVariables false
open Go.RowKit Go.Shelf
theorem bitLen_log (x : Nat) (h : x ≠ 0) (hx : x < 18446744073709551616) : Lib.bitLen x = Nat.log2 x + 1 := by
 induction x using Nat.strongRecOn with
 | _ x ih =>
   rw [Lib.bitLen_half x h hx, Nat.log2_def]
   by_cases h2 : 2 ≤ x
   ·rw [if_pos h2, ih (x / 2) (by omega) (by omega) (by omega)]
    omega
   ·have : x = 1 := by omega
    subst this
    rfl
theorem len_f : Tryz.laysLen_ren.f 125 = 186 := by kernel_rfl
theorem split_spec (n : Nat) (h : 2 ≤ n) (hn : n ≤ 1099511627776) (w : World) : Calls Tryz.prog 167 #[.int .i64 (n : Int)] w fun e w' => e = .returned (.int .i64 (Mk.split n : Nat)) ∧ w = w' := by
 have k := fun W => Any.bits_Len Tryz.laysLen ((n - 1 : Nat) : Int) W (by omega) (by omega)
 rw [len_f] at k
 have hb : Lib.bitLen ((n - 1 : Nat) : Int).toNat = Nat.log2 (n - 1) + 1 := by
  rw [Int.toNat_natCast]
  exact bitLen_log _ (by omega) (by omega)
 rw [hb] at k
 have e1 : (n : Int) - 1 = ((n - 1 : Nat) : Int) := by omega
 have hl : Nat.log2 (n - 1) ≤ 40 := by
  have := Nat.log2_lt (n := n - 1) (k := 41) (by omega)
  have h2 := this.2 (by omega)
  omega
 have hs : Mk.split n = 2 ^ Nat.log2 (n - 1) := rfl
 rw [hs]
 obtain ⟨m, hm⟩ : ∃ m, Nat.log2 (n - 1) = m := ⟨_, rfl⟩
 rw [hm] at k hl ⊢
 have s1 := fun W => run_shl Tryz.prog .i64 .i64 1 m W (by show m ≤ 64; omega)
 have h3 : 2 ^ m ≤ 2 ^ 40 := Nat.pow_le_pow_right (by decide) hl
 have h4 : ((2 : Int) ^ m) = ((2 ^ m : Nat) : Int) := by simp
 rw [Int.one_mul, h4] at s1
 obtain ⟨P, hP⟩ : ∃ P, 2 ^ m = P := ⟨_, rfl⟩
 rw [hP] at s1 h3 ⊢
 have hp : IntKind.i64.wrap (P : Int) = (P : Int) := by rw [IntKind.wrap_i64]; omega
 rw [hp] at s1
 have h5 : wrap64 ((2 : Int) ^ m) = (P : Int) := by rw [h4, hP, IntWalk.wrap64_in _ (by omega)]
 generalize n - 1 = q at e1 k hm
 clear hp hs hb hm h4 hP
 go_enter Tryz.func167, Tryz.ntmps167
 go_wp2_with fail
 refine (k w).mono ?_
 rintro e w' ⟨rfl, rfl⟩
 clear k
 have H5 := Lib.hid h5
 go_wp2
 go_ret
 exact ⟨congrArg (fun v => Ending.returned (Value.int .i64 v)) H5.out, rfl⟩
theorem rsplit_spec (n : Nat) (h : 2 ≤ n) (hn : n ≤ 1099511627776) (w : World) : Calls Tryz.prog 143 #[.int .i64 (n : Int)] w fun e w' => e = .returned (.int .i64 (Mk.split n : Nat)) ∧ w = w' := by
 have HS := Lib.hid (fun (k j : Nat) (a : k = 2 ^ j) (b : k < n) (c : ¬ 2 * k < n) => (Mk.split_unique h j a b (by omega)).symm)
 go_enter Tryz.func143, Tryz.ntmps143
 go_wp2
 go_loop [3] (fun v => ∃ k : Nat, v = .int .i64 k ∧ (∃ j, k = 2 ^ j) ∧ 1 ≤ k ∧ k < n) (fun v => n - (intOf v).toNat)
 case atStart => exact ⟨1, rfl, ⟨0, rfl⟩, by omega, by omega⟩
 case round =>
  obtain ⟨k, rfl, ⟨j, hj⟩, h1, hk⟩ := hrel
  have HJ := Lib.hid hj
  clear hj
  by_cases hlt : 2 * k < n
  ·have g1 : decide (2 * (k : Int) < (n : Int)) = true := by simp; omega
   go_wp2
   go_round
   case rel => exact ⟨2 * k, by congr 1 <;> omega, ⟨j + 1, by rw [HJ.out, Nat.pow_succ]; omega⟩, by omega, by omega⟩
   case measure => simp [intOf]; omega
  ·have g1 : decide (2 * (k : Int) < (n : Int)) = false := by simp; omega
   go_wp2
   go_ret
   exact ⟨by rw [← HS.out k j HJ.out hk hlt]; rfl, rfl⟩
theorem digest_spec (s : Mk.Str) (w : World) : Calls Tryz.prog 134 #[.string ⟨s.toArray⟩] w fun e w' => e = .returned (.bool (decide (s.length = 32))) ∧ w = w' := by
 by_cases h : s.length = 32
 ·have g1 : ((s.length : Int) == 32) = true := by rw [h]; rfl
  have hd : decide (s.length = 32) = true := decide_eq_true h
  rw [hd]
  clear h hd
  go_enter Tryz.func134, Tryz.ntmps134
  go_wp2
  go_ret
  exact ⟨rfl, rfl⟩
 ·have g1 : ((s.length : Int) == 32) = false := by rw [beq_eq_false_iff_ne]; omega
  have hd : decide (s.length = 32) = false := decide_eq_false h
  rw [hd]
  clear h hd
  go_enter Tryz.func134, Tryz.ntmps134
  go_wp2
  go_ret
  exact ⟨rfl, rfl⟩
theorem rdigest_spec (s : Mk.Str) (w : World) : Calls Tryz.prog 101 #[.string ⟨s.toArray⟩] w fun e w' => e = .returned (.bool (decide (s.length = 32))) ∧ w = w' := by
 by_cases h : s.length = 32
 ·have g1 : ((s.length : Int) == 32) = true := by rw [h]; rfl
  have hd : decide (s.length = 32) = true := decide_eq_true h
  rw [hd]
  clear h hd
  go_enter Tryz.func101, Tryz.ntmps101
  go_wp2
  go_ret
  exact ⟨rfl, rfl⟩
 ·have g1 : ((s.length : Int) == 32) = false := by rw [beq_eq_false_iff_ne]; omega
  have hd : decide (s.length = 32) = false := decide_eq_false h
  rw [hd]
  clear h hd
  go_enter Tryz.func101, Tryz.ntmps101
  go_wp2
  go_ret
  exact ⟨rfl, rfl⟩
theorem rd_new (W : World) (cs : Array Value) (e : TypeId) : Rd (W.alloc (.cells cs e)) (some ⟨W.heap.size, 0, none⟩) cs.toList := by
 refine .inr ⟨W.heap.size, 0, rfl, fun j hj => ?_⟩
 rw [Nat.zero_add, (Blk.new W e cs).cell]
 simp
theorem hash_mk (k : Mk.Str) (A : Option Addr) (L : List Mk.Str) (c : Nat) (w : World) (hR : Rd w A (strs L)) (hc : L.length ≤ c) (hk : k.length ≤ 1) (hl : weight L ≤ 4294967296) :
 Calls Tryz.prog 159 #[.string ⟨k.toArray⟩, .slice A L.length c] w fun e w' => e = .returned (.string ⟨(Sh.sha (k ++ L.flatten)).toArray⟩) ∧ Below w.heap.size w w' := by
 have hfl : L.flatten.length ≤ 4294967296 := by rw [List.length_flatten]; unfold weight at hl; omega
 have hLl : L.length ≤ 4294967296 := by unfold weight at hl; omega
 have kj := join_spec A L c w hR hc (by omega)
 obtain ⟨M, hM⟩ : ∃ M, L.flatten = M := ⟨_, rfl⟩
 rw [hM] at kj hfl ⊢
 have HR := Lib.hid hR
 clear hR hM
 have hba := bytes_append k M
 have f1 : ¬ (IntKind.i64.max < (k.length : Int) + (M.length : Int)) := by show ¬ ((9223372036854775807 : Int) < _); omega
 have f2 : ¬ (9223372036854775807 < k.length + M.length) := by omega
 go_enter Tryz.func159, Tryz.ntmps159
 go_wp2_with fail
 refine kj.mono ?_
 rintro e w1 ⟨rfl, b1⟩
 go_wp2_with fail
 refine (sum_below (k ++ M) (by rw [List.length_append]; omega) w1).mono ?_
 rintro e w2 ⟨rfl, b2⟩
 go_wp2
 go_ret
 exact ⟨rfl, (((St.nil w).under b1).under b2).below⟩
theorem leaf_spec (d : Mk.Str) (hd : d.length ≤ 1073741824) (w : World) : Calls Tryz.prog 113 #[.string ⟨d.toArray⟩] w fun e w' => e = .returned (.string ⟨(Mk.leaf d).toArray⟩) ∧ Below w.heap.size w w' := by
 have ba : Below w.heap.size w (w.alloc (.cells #[.string ⟨d.toArray⟩] 9)) := (Below.refl _ w).alloc (Nat.le_refl _) _
 have k := hash_mk [0] (some ⟨w.heap.size, 0, none⟩) [d] 1 (w.alloc (.cells #[.string ⟨d.toArray⟩] 9)) (rd_new w #[.string ⟨d.toArray⟩] 9) (by simp) (by simp) (by simp [weight]; omega)
 rw [show [0] ++ [d].flatten = 0 :: d by simp] at k
 go_enter Tryz.func113, Tryz.ntmps113
 go_wp2_with fail
 refine k.mono ?_
 rintro e w1 ⟨rfl, b1⟩
 go_wp2
 go_ret
 exact ⟨rfl, ba.trans (b1.mono ba.size)⟩
theorem node_spec (l r : Mk.Str) (w : World) : Calls Tryz.prog 168 #[.string ⟨l.toArray⟩, .string ⟨r.toArray⟩] w fun e w' => e = .returned (.string ⟨(Mk.node l r).toArray⟩) ∧ Below w.heap.size w w' := by
 have k1 := digest_spec l
 have k2 := digest_spec r
 by_cases h1 : l.length = 32
 ·rw [decide_eq_true h1] at k1
  by_cases h2 : r.length = 32
  ·rw [decide_eq_true h2] at k2
   have ba : Below w.heap.size w (w.alloc (.cells #[.string ⟨l.toArray⟩, .string ⟨r.toArray⟩] 9)) := (Below.refl _ w).alloc (Nat.le_refl _) _
   have k := hash_mk [1] (some ⟨w.heap.size, 0, none⟩) [l, r] 2 (w.alloc (.cells #[.string ⟨l.toArray⟩, .string ⟨r.toArray⟩] 9)) (rd_new w #[.string ⟨l.toArray⟩, .string ⟨r.toArray⟩] 9) (by simp) (by simp) (by simp [weight]; omega)
   have e1 : [1] ++ [l, r].flatten = 1 :: (l ++ r) := by simp
   have e2 : Mk.node l r = Sh.sha (1 :: (l ++ r)) := by unfold Mk.node; rw [if_pos ⟨h1, h2⟩]
   rw [e1, ← e2] at k
   clear h1 h2 e1 e2
   go_enter Tryz.func168, Tryz.ntmps168
   go_wp2_with (first
    | ((with_reducible refine (k1 _).mono ?_); rintro e w1 ⟨rfl, rfl⟩)
    | ((with_reducible refine (k2 _).mono ?_); rintro e w1 ⟨rfl, rfl⟩)
    | fail)
   refine k.mono ?_
   rintro e w1 ⟨rfl, b1⟩
   go_wp2
   go_ret
   exact ⟨rfl, ba.trans (b1.mono ba.size)⟩
  ·rw [decide_eq_false h2] at k2
   have e2 : Mk.node l r = [] := by unfold Mk.node; rw [if_neg (fun h => h2 h.2)]
   rw [e2]
   clear h1 h2 e2
   go_enter Tryz.func168, Tryz.ntmps168
   go_wp2_with (first
    | ((with_reducible refine (k1 _).mono ?_); rintro e w1 ⟨rfl, rfl⟩)
    | ((with_reducible refine (k2 _).mono ?_); rintro e w1 ⟨rfl, rfl⟩)
    | fail)
   go_ret
   exact ⟨rfl, Below.refl _ _⟩
 ·rw [decide_eq_false h1] at k1
  have e2 : Mk.node l r = [] := by unfold Mk.node; rw [if_neg (fun h => h1 h.1)]
  rw [e2]
  clear h1 e2
  go_enter Tryz.func168, Tryz.ntmps168
  go_wp2_with (first
   | ((with_reducible refine (k1 _).mono ?_); rintro e w1 ⟨rfl, rfl⟩)
   | fail)
  go_ret
  exact ⟨rfl, Below.refl _ _⟩
theorem rleaf_spec (d : Mk.Str) (hd : d.length ≤ 1073741824) (w : World) : Calls Tryz.prog 50 #[.string ⟨d.toArray⟩] w fun e w' => e = .returned (.string ⟨(Mk.leaf d).toArray⟩) ∧ Below w.heap.size w w' := by
 have hba := bytes_append [0] d
 have f1 : ¬ (IntKind.i64.max < 1 + (d.length : Int)) := by show ¬ ((9223372036854775807 : Int) < _); omega
 have f2 : ¬ (9223372036854775807 < 1 + d.length) := by omega
 have k := fun W => rsum_spec (0 :: d) (by simp; omega) W
 rw [show [0] ++ d = 0 :: d from rfl] at hba
 have hm : Mk.leaf d = Sh.sha (0 :: d) := rfl
 rw [hm]
 clear hm
 generalize 0 :: d = D at k hba
 go_enter Tryz.func50, Tryz.ntmps50
 go_wp2_with fail
 refine (k _).mono ?_
 rintro e w1 ⟨rfl, b1⟩
 go_wp2
 go_ret
 exact ⟨rfl, b1⟩
theorem rnode_spec (l r : Mk.Str) (w : World) : Calls Tryz.prog 144 #[.string ⟨l.toArray⟩, .string ⟨r.toArray⟩] w fun e w' => e = .returned (.string ⟨(Mk.node l r).toArray⟩) ∧ Below w.heap.size w w' := by
 have k1 := rdigest_spec l
 have k2 := rdigest_spec r
 by_cases h1 : l.length = 32
 ·rw [decide_eq_true h1] at k1
  by_cases h2 : r.length = 32
  ·rw [decide_eq_true h2] at k2
   have e2 : Mk.node l r = Sh.sha ([1] ++ l ++ r) := by unfold Mk.node; rw [if_pos ⟨h1, h2⟩]; rfl
   have k := fun W => rsum_spec ([1] ++ l ++ r) (by simp; omega) W
   rw [← e2] at k
   have hb1 := bytes_append [1] l
   have hb2 := bytes_append ([1] ++ l) r
   have hx : ([1] ++ l).length = 33 := by simp; omega
   obtain ⟨X, hX⟩ : ∃ X, [1] ++ l = X := ⟨_, rfl⟩
   rw [hX] at k hb1 hb2 hx
   obtain ⟨Y, hY⟩ : ∃ Y, X ++ r = Y := ⟨_, rfl⟩
   rw [hY] at k hb2
   have f1 : ¬ (IntKind.i64.max < 1 + (l.length : Int)) := by show ¬ ((9223372036854775807 : Int) < _); omega
   have f2 : ¬ (9223372036854775807 < 1 + l.length) := by omega
   have f3 : ¬ (IntKind.i64.max < (X.length : Int) + (r.length : Int)) := by show ¬ ((9223372036854775807 : Int) < _); omega
   have f4 : ¬ (9223372036854775807 < X.length + r.length) := by omega
   clear h1 h2 e2 hX hY hx
   go_enter Tryz.func144, Tryz.ntmps144
   go_wp2_with (first
    | ((with_reducible refine (k1 _).mono ?_); rintro e w1 ⟨rfl, rfl⟩)
    | ((with_reducible refine (k2 _).mono ?_); rintro e w1 ⟨rfl, rfl⟩)
    | fail)
   refine (k _).mono ?_
   rintro e w1 ⟨rfl, b1⟩
   go_wp2
   go_ret
   exact ⟨rfl, b1⟩
  ·rw [decide_eq_false h2] at k2
   have e2 : Mk.node l r = [] := by unfold Mk.node; rw [if_neg (fun h => h2 h.2)]
   rw [e2]
   clear h1 h2 e2
   go_enter Tryz.func144, Tryz.ntmps144
   go_wp2_with (first
    | ((with_reducible refine (k1 _).mono ?_); rintro e w1 ⟨rfl, rfl⟩)
    | ((with_reducible refine (k2 _).mono ?_); rintro e w1 ⟨rfl, rfl⟩)
    | fail)
   go_ret
   exact ⟨rfl, Below.refl _ _⟩
 ·rw [decide_eq_false h1] at k1
  have e2 : Mk.node l r = [] := by unfold Mk.node; rw [if_neg (fun h => h1 h.1)]
  rw [e2]
  clear h1 e2
  go_enter Tryz.func144, Tryz.ntmps144
  go_wp2_with (first
   | ((with_reducible refine (k1 _).mono ?_); rintro e w1 ⟨rfl, rfl⟩)
   | fail)
  go_ret
  exact ⟨rfl, Below.refl _ _⟩
end Go.Proofs.YtjjpdnpbhdcpbaaGreat
namespace Go.Proofs.YtjjpdnpbhdcpbaaGreat
set_option linter.unusedVariables false
open Go.RowKit
theorem rd_take {w : World} {A : Option Addr} {L : List Mk.Str} (h : Rd w A (strs L)) (k : Nat) : Rd w A (strs (L.take k)) := by
 rcases h with h | ⟨b, off, hA, hc⟩
 ·left
  have : L = [] := by simpa [strs] using h
  subst this
  simp [strs]
 ·refine .inr ⟨b, off, hA, fun j hj => ?_⟩
  have hl : j < (strs L).length := by simp [strs] at hj ⊢; omega
  have := hc j hl
  rw [this]
  simp [strs]
theorem rd_drop {w : World} {b off : Nat} {L : List Mk.Str} (h : Rd w (some ⟨b, off, none⟩) (strs L)) (k : Nat) : Rd w (some ⟨b, off + k, none⟩) (strs (L.drop k)) := by
 rcases h with h | ⟨b', off', hA, hc⟩
 ·left
  have : L = [] := by simpa [strs] using h
  subst this
  simp [strs]
 ·injection hA with hA
  injection hA with h1 h2
  subst h1 h2
  refine .inr ⟨b, off + k, rfl, fun j hj => ?_⟩
  have hl : k + j < (strs L).length := by simp [strs] at hj ⊢; omega
  have := hc (k + j) hl
  rw [← Nat.add_assoc] at this
  rw [this]
  simp [strs]
set_option maxRecDepth 20000 in
set_option maxHeartbeats 2000000 in
theorem mroot_spec : ∀ (n : Nat) (A : Option Addr) (L : List Mk.Str) (c : Nat) (w : World), L.length ≤ n → n ≤ 1099511627776 → Rd w A (strs L) → L.length ≤ c → c ≤ maxLen →
 Calls Tryz.prog 139 #[.slice A L.length c] w fun e w' => e = .returned (.string ⟨(Mk.root L).toArray⟩) ∧ Below w.heap.size w w' := by
 intro n
 induction n with
 | zero =>
   intro A L c w hl hn hR hc hm
   obtain rfl : L = [] := List.eq_nil_of_length_eq_zero (by omega)
   rw [Mk.root_nil]
   go_enter Tryz.func139, Tryz.ntmps139
   go_wp2_with fail
   refine (sum_below [] (by decide) _).mono ?_
   rintro e w1 ⟨rfl, b1⟩
   go_wp2
   go_ret
   exact ⟨rfl, b1⟩
 | succ n ih =>
   intro A L c w hl hn hR hc hm
   by_cases h2 : L.length < 2
   ·by_cases h0 : L.length = 0
    ·exact ih A L c w (by omega) (by omega) hR hc hm
    ·obtain ⟨x, rfl⟩ := List.length_eq_one_iff.1 (show L.length = 1 by omega)
     rw [Mk.root_one]
     obtain ⟨b, off, rfl, hcc⟩ := hR.str (k := 0) (by simp)
     rw [Nat.add_zero] at hcc
     have hcc : w.cell? ⟨b, off, none⟩ = some (.string ⟨x.toArray⟩) := hcc
     have h1 : ([x] : List Mk.Str).length = 1 := rfl
     rw [h1]
     clear h1 hl h2 h0 hR hc
     go_enter Tryz.func139, Tryz.ntmps139
     go_wp2
     go_ret
     exact ⟨rfl, Below.refl _ _⟩
   ·obtain ⟨b, off, hA, _⟩ := hR.str (k := 0) (by omega)
    subst hA
    have hk0 := Mk.split_pos L.length
    have hk1 := Mk.split_lt (n := L.length) (by omega)
    have hrt := Mk.root_split L (by omega)
    have ks := fun W => split_spec L.length (by omega) (by omega) W
    obtain ⟨k, hk⟩ : ∃ k, Mk.split L.length = k := ⟨_, rfl⟩
    rw [hk] at hk0 hk1 hrt ks
    have ht := rd_take hR k
    have hd := rd_drop hR k
    have lt : (L.take k).length = k := by rw [List.length_take]; omega
    have ld : (L.drop k).length = L.length - k := List.length_drop
    have k1 := fun (W : World) (hb : Below w.heap.size w W) => ih (some ⟨b, off, none⟩) (L.take k) c W (by omega) (by omega) (ht.below hb) (by omega) hm
    have k2 := fun (W : World) (hb : Below w.heap.size w W) => ih (some ⟨b, off + k, none⟩) (L.drop k) (c - k) W (by omega) (by omega) (hd.below hb) (by omega) (by unfold maxLen at hm ⊢; omega)
    rw [lt] at k1
    rw [ld] at k2
    rw [hrt]
    have k3 := fun W => node_spec (Mk.root (L.take k)) (Mk.root (L.drop k)) W
    generalize Mk.root (L.take k) = R1 at k1 k3 ⊢
    generalize Mk.root (L.drop k) = R2 at k2 k3 ⊢
    generalize Mk.node R1 R2 = R3 at k3 ⊢
    obtain ⟨N, hN⟩ : ∃ N, L.length = N := ⟨_, rfl⟩
    rw [hN] at hl hc h2 hk1 k2 ks ⊢
    have HX := Lib.hid (And.intro hN (And.intro hk (And.intro hR (And.intro ht hd))))
    clear hN hk hR ht hd lt ld hrt ih
    have i0 : ((N : Int) == 0) = false := by rw [beq_eq_false_iff_ne]; omega
    have i1 : ((N : Int) == 1) = false := by rw [beq_eq_false_iff_ne]; omega
    have i2 : (0 : Int) ≤ (k : Int) := by omega
    have i3 : (k : Int) ≤ (N : Int) := by omega
    have i4 : (k : Int) ≤ (c : Int) := by omega
    have i5 : (N : Int) ≤ (c : Int) := by omega
    have i6 : ¬ (k = c) := by omega
    have i7 : ((N - k : Nat) : Int) = (N : Int) - (k : Int) := by omega
    have i8 : ((c - k : Nat) : Int) = (c : Int) - (k : Int) := by omega
    have i9 : ¬ (c = k) := by omega
    unfold maxLen at hm
    go_enter Tryz.func139, Tryz.ntmps139
    go_wp2_with (first
     | ((with_reducible refine (ks _).mono ?_); rintro e w1 ⟨rfl, rfl⟩)
     | fail)
    have b0 : Below w.heap.size w w.drew := (Below.refl _ w).drew
    go_region_held3 (fun w' => w.heap.size ≤ w'.heap.size)
     (first
       | exact Nat.le_refl _
       | exact b3.size
       | exact b2.size
       | exact b1.size
       | fail)
     (first
       | (with_reducible refine (k1 _ b0).mono ?_
          rintro e w1 ⟨rfl, c1⟩
          have b1 := b0.trans (c1.mono b0.size))
       | (with_reducible refine (k2 _ b1).mono ?_
          rintro e w2 ⟨rfl, c2⟩
          have b2 := b1.trans (c2.mono b1.size))
       | (with_reducible refine (k3 _).mono ?_
          rintro e w3 ⟨rfl, c3⟩
          have b3 := b2.trans (c3.mono b2.size))
       | fail)
    all_goals
     go_wp2
     go_ret
     exact ⟨rfl, b3⟩
set_option maxRecDepth 20000 in
set_option maxHeartbeats 2000000 in
theorem rroot_spec : ∀ (n : Nat) (A : Option Addr) (L : List Mk.Str) (c : Nat) (w : World), L.length ≤ n → n ≤ 1099511627776 → Rd w A (strs L) → L.length ≤ c → c ≤ maxLen →
 Calls Tryz.prog 92 #[.slice A L.length c] w fun e w' => e = .returned (.string ⟨(Mk.root L).toArray⟩) ∧ Below w.heap.size w w' := by
 intro n
 induction n with
 | zero =>
   intro A L c w hl hn hR hc hm
   obtain rfl : L = [] := List.eq_nil_of_length_eq_zero (by omega)
   rw [Mk.root_nil]
   go_enter Tryz.func92, Tryz.ntmps92
   go_wp2_with fail
   refine (rsum_spec [] (by decide) _).mono ?_
   rintro e w1 ⟨rfl, b1⟩
   go_wp2
   go_ret
   exact ⟨rfl, b1⟩
 | succ n ih =>
   intro A L c w hl hn hR hc hm
   by_cases h2 : L.length < 2
   ·by_cases h0 : L.length = 0
    ·exact ih A L c w (by omega) (by omega) hR hc hm
    ·obtain ⟨x, rfl⟩ := List.length_eq_one_iff.1 (show L.length = 1 by omega)
     rw [Mk.root_one]
     obtain ⟨b, off, rfl, hcc⟩ := hR.str (k := 0) (by simp)
     rw [Nat.add_zero] at hcc
     have hcc : w.cell? ⟨b, off, none⟩ = some (.string ⟨x.toArray⟩) := hcc
     have h1 : ([x] : List Mk.Str).length = 1 := rfl
     rw [h1]
     clear h1 hl h2 h0 hR hc
     go_enter Tryz.func92, Tryz.ntmps92
     go_wp2
     go_ret
     exact ⟨rfl, Below.refl _ _⟩
   ·obtain ⟨b, off, hA, _⟩ := hR.str (k := 0) (by omega)
    subst hA
    have hk0 := Mk.split_pos L.length
    have hk1 := Mk.split_lt (n := L.length) (by omega)
    have hrt := Mk.root_split L (by omega)
    have ks := fun W => rsplit_spec L.length (by omega) (by omega) W
    obtain ⟨k, hk⟩ : ∃ k, Mk.split L.length = k := ⟨_, rfl⟩
    rw [hk] at hk0 hk1 hrt ks
    have ht := rd_take hR k
    have hd := rd_drop hR k
    have lt : (L.take k).length = k := by rw [List.length_take]; omega
    have ld : (L.drop k).length = L.length - k := List.length_drop
    have k1 := fun (W : World) (hb : Below w.heap.size w W) => ih (some ⟨b, off, none⟩) (L.take k) c W (by omega) (by omega) (ht.below hb) (by omega) hm
    have k2 := fun (W : World) (hb : Below w.heap.size w W) => ih (some ⟨b, off + k, none⟩) (L.drop k) (c - k) W (by omega) (by omega) (hd.below hb) (by omega) (by unfold maxLen at hm ⊢; omega)
    rw [lt] at k1
    rw [ld] at k2
    rw [hrt]
    have k3 := fun W => rnode_spec (Mk.root (L.take k)) (Mk.root (L.drop k)) W
    generalize Mk.root (L.take k) = R1 at k1 k3 ⊢
    generalize Mk.root (L.drop k) = R2 at k2 k3 ⊢
    generalize Mk.node R1 R2 = R3 at k3 ⊢
    obtain ⟨N, hN⟩ : ∃ N, L.length = N := ⟨_, rfl⟩
    rw [hN] at hl hc h2 hk1 k2 ks ⊢
    have HX := Lib.hid (And.intro hN (And.intro hk (And.intro hR (And.intro ht hd))))
    clear hN hk hR ht hd lt ld hrt ih
    have i0 : ((N : Int) == 0) = false := by rw [beq_eq_false_iff_ne]; omega
    have i1 : ((N : Int) == 1) = false := by rw [beq_eq_false_iff_ne]; omega
    have i2 : (0 : Int) ≤ (k : Int) := by omega
    have i3 : (k : Int) ≤ (N : Int) := by omega
    have i4 : (k : Int) ≤ (c : Int) := by omega
    have i5 : (N : Int) ≤ (c : Int) := by omega
    have i6 : ¬ (k = c) := by omega
    have i7 : ((N - k : Nat) : Int) = (N : Int) - (k : Int) := by omega
    have i8 : ((c - k : Nat) : Int) = (c : Int) - (k : Int) := by omega
    have i9 : ¬ (c = k) := by omega
    unfold maxLen at hm
    go_enter Tryz.func92, Tryz.ntmps92
    go_wp2_with (first
     | ((with_reducible refine (ks _).mono ?_); rintro e w1 ⟨rfl, rfl⟩)
     | fail)
    have b0 : Below w.heap.size w w.drew := (Below.refl _ w).drew
    go_region_held3 (fun w' => w.heap.size ≤ w'.heap.size)
     (first
       | exact Nat.le_refl _
       | exact b3.size
       | exact b2.size
       | exact b1.size
       | fail)
     (first
       | (with_reducible refine (k1 _ b0).mono ?_
          rintro e w1 ⟨rfl, c1⟩
          have b1 := b0.trans (c1.mono b0.size))
       | (with_reducible refine (k2 _ b1).mono ?_
          rintro e w2 ⟨rfl, c2⟩
          have b2 := b1.trans (c2.mono b1.size))
       | (with_reducible refine (k3 _).mono ?_
          rintro e w3 ⟨rfl, c3⟩
          have b3 := b2.trans (c3.mono b2.size))
       | fail)
    all_goals
     go_wp2
     go_ret
     exact ⟨rfl, b3⟩
end Go.Proofs.YtjjpdnpbhdcpbaaGreat
namespace Go.Proofs.YtjjpdnpbhdcpbaaGreat
set_option linter.unusedVariables false
open Go.RowKit
theorem info_str : (Tryz.prog.info? 9).map (fun i => (i.zero, i.size, i.bytes)) = some (some (.string ⟨#[]⟩), 1, 16) := by kernel_rfl
theorem strs_append (a b : List Mk.Str) : strs (a ++ b) = strs a ++ strs b := by simp [strs]
theorem stepA {lo : Nat} {w0 w : World} {Rs : List Res} {e : TypeId} {v : Value} {n : Nat} {xs : List Value} {P : Program} {ops : Array Oper} {o : Oper} {a : Act} {K : Act → World → Prop} {Q : Exit → Act → World → Prop} {E : Prop} (t : TypeId) {z : Value} {bytes : Nat} {u : Value} {te : TypeId}
 (h : St lo w0 w (ownR e 1 v n xs :: Rs)) (ht : P.underlying t = some (.slice e)) (hi : (P.info? e).map (fun i => (i.zero, i.size, i.bytes)) = some (some z, 1, bytes)) (hzs : z.cells.size = 1)
 (s x : Operand) (ho : o.op = .call { callee := .builtin .append, args := #[s, x], argTypes := #[t, t] }) (hgd : o.guard = none)
 (hs : a.eval s = v) (hx : a.eval x = .slice (some ⟨w.heap.size, 0, none⟩) 1 1) (hu : u.oneCell' = true) (h63 : n + 1 ≤ maxLen) (hbytes : (n + 1) * bytes ≤ 140737488355328)
 (hk : ∀ g cap w', St lo w0 w' (ownR e 1 (.slice (some ⟨g, 0, none⟩) (n + 1) cap) (n + 1) (xs ++ [u]) :: Rs) → K (a.put o.dst (.slice (some ⟨g, 0, none⟩) (n + 1) cap)) w') :
 if Region.wanted o (yielded ops a.tmps) = true then Oper.wp P o a (w.alloc (.cells #[u] te)) K Q else E := by
 rw [if_pos (by unfold Region.wanted; rw [hgd])]
 refine appendS t (h.alloc0 _) ht hi hzs (by decide) s x ho hs ⟨w.heap.size, 0, none⟩ 1 1 [u] hx rfl ?_ ?_ (by decide) h63 hbytes (fun g cap w' r1 _ _ => hk g cap w' r1)
 ·intro j y hj
  match j, hj with
  | 0, hj => simp at hj; subst hj; exact (Blk.new w te #[_]).cell 0
 ·intro y hy; simp at hy; subst hy; exact hu
theorem Mk.depth_le (i n : Nat) : Mk.depth i n ≤ n := by
 induction n using Nat.strongRecOn generalizing i with
 | _ n ih =>
   by_cases h : n < 2
   ·rw [Mk.depth_one i n h]; omega
   ·have h1 := Mk.split_lt (n := n) (by omega)
    have h2 := Mk.split_pos n
    by_cases hi : i < Mk.split n
    ·rw [Mk.depth_left i n (by omega) hi]; have := ih (Mk.split n) h1 i; omega
    ·rw [Mk.depth_right i n (by omega) hi]; have := ih (n - Mk.split n) (by omega) (i - Mk.split n); omega
set_option maxRecDepth 20000 in
set_option maxHeartbeats 4000000 in
theorem mincl_spec : ∀ (n : Nat) (A : Option Addr) (L : List Mk.Str) (i c : Nat) (w : World), L.length ≤ n → n ≤ 1099511627776 → Rd w A (strs L) → L.length ≤ c → c ≤ maxLen → i < L.length →
 Calls Tryz.prog 149 #[.slice A L.length c, .int .i64 (i : Int)] w fun e w' => ∃ v, e = .returned v ∧ St w.heap.size w w' [ownR 9 1 v (Mk.incl L i).length (strs (Mk.incl L i))] := by
 intro n
 induction n with
 | zero => intro A L i c w hl hn hR hc hm hi; omega
 | succ n ih =>
   intro A L i c w hl hn hR hc hm hi
   by_cases h2 : L.length < 2
   ·have h1 : L.length = 1 := by omega
    rw [Mk.incl_one L i h2, h1]
    clear hl h2 hR hc hi h1
    go_enter Tryz.func149, Tryz.ntmps149
    go_wp2
    go_ret
    exact ⟨_, rfl, (St.nil w).new_own (Below.refl _ w) (World.ownsRow_nil _ _ _ _)⟩
   ·obtain ⟨b, off, hA, _⟩ := hR.str (k := 0) (by omega)
    subst hA
    have hk0 := Mk.split_pos L.length
    have hk1 := Mk.split_lt (n := L.length) (by omega)
    have ks := fun W => split_spec L.length (by omega) (by omega) W
    obtain ⟨k, hk⟩ : ∃ k, Mk.split L.length = k := ⟨_, rfl⟩
    have ht := rd_take hR k
    have hd := rd_drop hR k
    have lt : k ≤ L.length → (L.take k).length = k := fun h => by rw [List.length_take]; omega
    have ld : (L.drop k).length = L.length - k := List.length_drop
    by_cases hik : i < k
    ·rw [hk] at hk0 hk1 ks
     have k1 := fun (W : World) (hb : Below w.heap.size w W) => ih (some ⟨b, off, none⟩) (L.take k) i c W (by rw [lt (by omega)]; omega) (by omega) (ht.below hb) (by rw [lt (by omega)]; omega) hm (by rw [lt (by omega)]; omega)
     have k2 := fun (W : World) (hb : Below w.heap.size w W) => mroot_spec (L.length) (some ⟨b, off + k, none⟩) (L.drop k) (c - k) W (by omega) (by omega) (hd.below hb) (by omega) (by unfold maxLen at hm ⊢; omega)
     have hin := Mk.incl_left L i (by omega) (by rw [hk]; exact hik)
     have hml := Mk.incl_length _ (L.take k) i rfl
     have hmd := Mk.depth_le i (L.take k).length
     rw [lt (by omega)] at k1 hml hmd
     rw [ld] at k2
     rw [hk] at hin
     have HN := Lib.hid hin
     generalize Mk.incl (L.take k) i = M at k1 HN hml
     generalize Mk.root (L.drop k) = R at k2 HN
     obtain ⟨N, hN⟩ : ∃ N, L.length = N := ⟨_, rfl⟩
     rw [hN] at hl hc h2 hk1 ks hi k2 ⊢
     have hM : M.length ≤ N := by omega
     have q2 : M.length + 1 ≤ maxLen := by unfold maxLen; omega
     have q1 : (M.length + 1) * 16 ≤ 140737488355328 := by omega
     obtain ⟨mm, hmm⟩ : ∃ mm, M.length = mm := ⟨_, rfl⟩
     have HM := Lib.hid (show (mm + 1 : Nat) = M.length + 1 by rw [hmm])
     have HX := Lib.hid (And.intro hN (And.intro hk (And.intro hR (And.intro ht hd))))
     clear hN hk hR ht hd lt ld ih hin hml hmd hM hmm
     have i0 : ((N : Int) == 1) = false := by rw [beq_eq_false_iff_ne]; omega
     have i2 : (0 : Int) ≤ (k : Int) := by omega
     have i3 : (k : Int) ≤ (N : Int) := by omega
     have i4 : (k : Int) ≤ (c : Int) := by omega
     have i5 : (N : Int) ≤ (c : Int) := by omega
     have i6 : ¬ (k = c) := by omega
     have i7 : ((N - k : Nat) : Int) = (N : Int) - (k : Int) := by omega
     have i8 : ((c - k : Nat) : Int) = (c : Int) - (k : Int) := by omega
     have i9 : ¬ (c = k) := by omega
     have g1 : decide ((i : Int) < (k : Int)) = true := by simp; omega
     unfold maxLen at hm
     go_enter Tryz.func149, Tryz.ntmps149
     go_wp2_with (first
      | ((with_reducible refine (ks _).mono ?_); rintro e w1 ⟨rfl, rfl⟩)
      | fail)
     have b0 : Below w.heap.size w w.drew := (Below.refl _ w).drew
     have s0 : St w.heap.size w w.drew [] := (St.nil w).drew
     go_region_held3 (fun w' => w.heap.size ≤ w'.heap.size)
      (first
        | exact Nat.le_refl _
        | exact h8.size
        | exact (h2.alloc0 _).size
        | exact h2.size
        | exact h1.size
        | fail)
      (first
        | (with_reducible refine (k1 _ b0).mono ?_
           rintro e w1 ⟨v1, rfl, t1⟩
           have h1 := s0.join t1)
        | (with_reducible refine (k2 _ h1.below).mono ?_
           rintro e w2 ⟨rfl, c2⟩
           have h2 := h1.under c2)
        | (refine stepA 27 (te := 9) (u := .string ⟨R.toArray⟩) h2 Tryz.underlying27 info_str rfl _ _ (by rfl) (by rfl) (by rfl) (by rfl) rfl q2 q1 ?_
           intro gg cap w5 h8)
        | fail)
     all_goals
      go_wp2
      go_ret
      refine ⟨_, rfl, ?_⟩
      rw [HN.out, strs_append, List.length_append]
      exact h8
    ·rw [hk] at hk0 hk1 ks
     have k1 := fun (W : World) (hb : Below w.heap.size w W) => ih (some ⟨b, off + k, none⟩) (L.drop k) (i - k) (c - k) W (by omega) (by omega) (hd.below hb) (by omega) (by unfold maxLen at hm ⊢; omega) (by omega)
     have k2 := fun (W : World) (hb : Below w.heap.size w W) => mroot_spec (L.length) (some ⟨b, off, none⟩) (L.take k) c W (by rw [lt (by omega)]; omega) (by omega) (ht.below hb) (by rw [lt (by omega)]; omega) hm
     have hin := Mk.incl_right L i (by omega) (by rw [hk]; exact hik)
     have hml := Mk.incl_length _ (L.drop k) (i - k) rfl
     have hmd := Mk.depth_le (i - k) (L.drop k).length
     rw [ld] at k1 hml hmd
     rw [lt (by omega)] at k2
     rw [hk] at hin
     have HN := Lib.hid hin
     have j1 : (i : Int) - (k : Int) = ((i - k : Nat) : Int) := by omega
     generalize i - k = i' at k1 HN hml hmd j1
     generalize Mk.incl (L.drop k) i' = M at k1 HN hml
     generalize Mk.root (L.take k) = R at k2 HN
     obtain ⟨N, hN⟩ : ∃ N, L.length = N := ⟨_, rfl⟩
     rw [hN] at hl hc h2 hk1 ks hi hml hmd k1 ⊢
     have hM : M.length ≤ N := by omega
     have q2 : M.length + 1 ≤ maxLen := by unfold maxLen; omega
     have q1 : (M.length + 1) * 16 ≤ 140737488355328 := by omega
     obtain ⟨mm, hmm⟩ : ∃ mm, M.length = mm := ⟨_, rfl⟩
     have HM := Lib.hid (show (mm + 1 : Nat) = M.length + 1 by rw [hmm])
     have HX := Lib.hid (And.intro hN (And.intro hk (And.intro hR (And.intro ht hd))))
     clear hN hk hR ht hd lt ld ih hin hml hmd hM hmm
     have i0 : ((N : Int) == 1) = false := by rw [beq_eq_false_iff_ne]; omega
     have i2 : (0 : Int) ≤ (k : Int) := by omega
     have i3 : (k : Int) ≤ (N : Int) := by omega
     have i4 : (k : Int) ≤ (c : Int) := by omega
     have i5 : (N : Int) ≤ (c : Int) := by omega
     have i6 : ¬ (k = c) := by omega
     have i7 : ((N - k : Nat) : Int) = (N : Int) - (k : Int) := by omega
     have i8 : ((c - k : Nat) : Int) = (c : Int) - (k : Int) := by omega
     have i9 : ¬ (c = k) := by omega
     have j2 : IntKind.i64.wrap (i' : Int) = (i' : Int) := by rw [IntWalk.i64_left, IntWalk.wrap64_in _ (by omega)]
     have g1 : decide ((i : Int) < (k : Int)) = false := by simp; omega
     unfold maxLen at hm
     go_enter Tryz.func149, Tryz.ntmps149
     go_wp2_with (first
      | ((with_reducible refine (ks _).mono ?_); rintro e w1 ⟨rfl, rfl⟩)
      | fail)
     have b0 : Below w.heap.size w w.drew := (Below.refl _ w).drew
     have s0 : St w.heap.size w w.drew [] := (St.nil w).drew
     go_region_held3 (fun w' => w.heap.size ≤ w'.heap.size)
      (first
        | exact Nat.le_refl _
        | exact h8.size
        | exact (h2.alloc0 _).size
        | exact h2.size
        | exact h1.size
        | fail)
      (first
        | (with_reducible refine (k1 _ b0).mono ?_
           rintro e w1 ⟨v1, rfl, t1⟩
           have h1 := s0.join t1)
        | (with_reducible refine (k2 _ h1.below).mono ?_
           rintro e w2 ⟨rfl, c2⟩
           have h2 := h1.under c2)
        | (refine stepA 27 (te := 9) (u := .string ⟨R.toArray⟩) h2 Tryz.underlying27 info_str rfl _ _ (by rfl) (by rfl) (by rfl) (by rfl) rfl q2 q1 ?_
           intro gg cap w5 h8)
        | fail)
     all_goals
      go_wp2
      go_ret
      refine ⟨_, rfl, ?_⟩
      rw [HN.out, strs_append, List.length_append]
      exact h8
end Go.Proofs.YtjjpdnpbhdcpbaaGreat
