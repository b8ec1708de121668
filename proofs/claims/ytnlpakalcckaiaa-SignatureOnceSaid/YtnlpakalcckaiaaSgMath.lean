/-
  One-time signatures whose keys are the leaves of a tree: plain words. Conditions: none.
-/
import Derived.Test.YtnlpakalcckaiaaMkA
import Derived.Test.YtnlpakalcckaiaaCdA
import Derived.Test.YtnlpakalcckaiaaShaB
namespace Go.Proofs.Ytnlpakalcckaiaa.Sg
set_option linter.unusedVariables false
abbrev Str := List UInt8
/-- numbers as bytes -/
def nums (l : List Nat) : Str := (l.map Cd.uns).flatten
theorem nums_nil : nums [] = [] := rfl
theorem nums_take (l : List Nat) (k : Nat) (h : k < l.length) : nums (l.take (k + 1)) = nums (l.take k) ++ Cd.uns l[k] := by
  unfold nums
  rw [List.take_succ_eq_append_getElem h, List.map_append, List.flatten_append]
  simp
theorem nums_len (l : List Nat) : (nums l).length ≤ 10 * l.length := by
  induction l with
  | nil => simp [nums]
  | cons n l ih =>
    have := Cd.uns_len n
    have e : nums (n :: l) = Cd.uns n ++ nums l := by simp [nums]
    rw [e, List.length_append, List.length_cons]
    omega
/-- a step of a chain -/
def stp (i c p : Nat) (x : Str) : Str := Sh.sha (3 :: (nums [i, c, p] ++ x))
theorem stp_len (i c p : Nat) (x : Str) : (stp i c p x).length = 32 := Sh.sha_length _
/-- n steps from f on -/
def wlk (i c f : Nat) : Nat → Str → Str
  | 0, x => x
  | n + 1, x => stp i c (f + n) (wlk i c f n x)
theorem wlk_zero (i c f : Nat) (x : Str) : wlk i c f 0 x = x := rfl
theorem wlk_succ (i c f n : Nat) (x : Str) : wlk i c f (n + 1) x = stp i c (f + n) (wlk i c f n x) := rfl
theorem wlk_add (i c f m : Nat) (x : Str) : ∀ n, wlk i c f (m + n) x = wlk i c (f + m) n (wlk i c f m x)
  | 0 => rfl
  | n + 1 => by
    rw [← Nat.add_assoc, wlk_succ, wlk_succ, wlk_add i c f m x n, Nat.add_assoc]
theorem wlk_len (i c f : Nat) : ∀ (n : Nat) (x : Str), x.length = 32 → (wlk i c f n x).length = 32
  | 0, x, h => h
  | n + 1, x, h => stp_len _ _ _ _
theorem wlk_le (i c f : Nat) (B : Nat) (hB : 32 ≤ B) : ∀ (n : Nat) (x : Str), x.length ≤ B → (wlk i c f n x).length ≤ B
  | 0, x, h => h
  | n + 1, x, h => by rw [wlk_succ, stp_len]; exact hB
/-- a secret element -/
def sec (seed : Str) (i c : Nat) : Str := Sh.sha (2 :: (seed ++ nums [i, c]))
theorem sec_len (seed : Str) (i c : Nat) : (sec seed i c).length = 32 := Sh.sha_length _
/-- the ends of the first k chains -/
def tops (seed : Str) (i k : Nat) : Str := ((List.range k).map fun c => wlk i c 0 15 (sec seed i c)).flatten
theorem tops_zero (seed : Str) (i : Nat) : tops seed i 0 = [] := rfl
theorem tops_succ (seed : Str) (i k : Nat) : tops seed i (k + 1) = tops seed i k ++ wlk i k 0 15 (sec seed i k) := by
  unfold tops
  rw [List.range_succ, List.map_append, List.flatten_append]
  simp
theorem tops_len (seed : Str) (i : Nat) : ∀ k, (tops seed i k).length = 32 * k
  | 0 => rfl
  | k + 1 => by rw [tops_succ, List.length_append, tops_len seed i k, wlk_len _ _ _ _ _ (sec_len _ _ _)]; omega
/-- the leaf of a one-time key -/
def otl (seed : Str) (i : Nat) : Str := Mk.leaf (tops seed i 67)
theorem otl_len (seed : Str) (i : Nat) : (otl seed i).length = 32 := Sh.sha_length _
def lvs (seed : Str) (n : Nat) : List Str := (List.range n).map (otl seed)
theorem lvs_len (seed : Str) (n : Nat) : (lvs seed n).length = n := by simp [lvs]
theorem lvs_succ (seed : Str) (n : Nat) : lvs seed (n + 1) = lvs seed n ++ [otl seed n] := by simp [lvs, List.range_succ]
theorem lvs_dig (seed : Str) (n : Nat) : Mk.AllD (lvs seed n) := fun x hx => by
  obtain ⟨i, _, rfl⟩ := List.mem_map.1 hx
  exact otl_len _ _
theorem lvs_get (seed : Str) (n i : Nat) (h : i < n) : (lvs seed n)[i]'(by rw [lvs_len]; exact h) = otl seed i := by simp [lvs]
/-- the digits of a digest -/
def dl (s : Str) : List Nat := s.flatMap fun b => [b.toNat / 16, b.toNat % 16]
theorem dl_len (s : Str) : (dl s).length = 2 * s.length := by
  induction s with
  | nil => rfl
  | cons x s ih =>
    have : dl (x :: s) = [x.toNat / 16, x.toNat % 16] ++ dl s := rfl
    rw [this, List.length_append, ih, List.length_cons]
    simp
    omega
theorem dl_le (s : Str) : ∀ d ∈ dl s, d ≤ 15 := fun d hd => by
  obtain ⟨b, _, hb⟩ := List.mem_flatMap.1 hd
  have := b.toNat_lt
  simp at hb
  omega
theorem dl_hex (s : Str) : Sh.hex s = (dl s).map Sh.hexD := by
  induction s with
  | nil => rfl
  | cons x s ih =>
    have e1 : Sh.hex (x :: s) = [Sh.hexD (x.toNat / 16), Sh.hexD (x.toNat % 16)] ++ Sh.hex s := rfl
    have e2 : dl (x :: s) = [x.toNat / 16, x.toNat % 16] ++ dl s := rfl
    rw [e1, e2, ih, List.map_append]
    rfl
theorem dl_take (s : Str) (k : Nat) (h : k < s.length) : dl (s.take (k + 1)) = dl (s.take k) ++ [s[k].toNat / 16, s[k].toNat % 16] := by
  unfold dl
  rw [List.take_succ_eq_append_getElem h, List.flatMap_append]
  simp only [List.flatMap_cons, List.flatMap_nil, List.append_nil]
/-- what the digits lack -/
def lack (l : List Nat) : Nat := (l.map fun d => 15 - d).sum
theorem lack_append (a b : List Nat) : lack (a ++ b) = lack a + lack b := by simp [lack]
theorem lack_take (l : List Nat) (k : Nat) (h : k < l.length) : lack (l.take (k + 1)) = lack (l.take k) + (15 - l[k]) := by
  rw [List.take_succ_eq_append_getElem h, lack_append]
  simp [lack]
theorem lack_le (l : List Nat) : lack l ≤ 15 * l.length := by
  induction l with
  | nil => simp [lack]
  | cons d l ih =>
    have : lack (d :: l) = (15 - d) + lack l := by simp [lack]
    rw [this, List.length_cons]
    omega
def tail3 (n : Nat) : List Nat := [n / 256, n / 16 % 16, n % 16]
/-- the digits of a message -/
def dgs (msg : Str) : List Nat := dl (Sh.sha msg) ++ tail3 (lack (dl (Sh.sha msg)))
theorem dl_sha (msg : Str) : (dl (Sh.sha msg)).length = 64 := by rw [dl_len, Sh.sha_length]
theorem dgs_len (msg : Str) : (dgs msg).length = 67 := by
  unfold dgs tail3
  rw [List.length_append, dl_sha]
  rfl
theorem dgs_le (msg : Str) : ∀ d ∈ dgs msg, d ≤ 15 := fun d hd => by
  unfold dgs tail3 at hd
  have h1 := lack_le (dl (Sh.sha msg))
  rw [dl_sha] at h1
  rcases List.mem_append.1 hd with h | h
  · exact dl_le _ d h
  · simp at h
    omega
/-- the chains of a signature, and what they give -/
def chn (seed : Str) (i : Nat) (d : List Nat) (k : Nat) : List Str := (List.range k).map fun c => wlk i c 0 (d.getD c 0) (sec seed i c)
theorem chn_zero (seed : Str) (i : Nat) (d : List Nat) : chn seed i d 0 = [] := rfl
theorem chn_succ (seed : Str) (i : Nat) (d : List Nat) (k : Nat) : chn seed i d (k + 1) = chn seed i d k ++ [wlk i k 0 (d.getD k 0) (sec seed i k)] := by simp [chn, List.range_succ]
theorem chn_len (seed : Str) (i : Nat) (d : List Nat) (k : Nat) : (chn seed i d k).length = k := by simp [chn]
theorem chn_dig (seed : Str) (i : Nat) (d : List Nat) (k : Nat) : Mk.AllD (chn seed i d k) := fun x hx => by
  obtain ⟨c, _, rfl⟩ := List.mem_map.1 hx
  exact wlk_len _ _ _ _ _ (sec_len _ _ _)
def ends (i : Nat) (d : List Nat) (L : List Str) (k : Nat) : Str := ((List.range k).map fun c => wlk i c (d.getD c 0) (15 - d.getD c 0) (L.getD c [])).flatten
theorem ends_zero (i : Nat) (d : List Nat) (L : List Str) : ends i d L 0 = [] := rfl
theorem ends_succ (i : Nat) (d : List Nat) (L : List Str) (k : Nat) : ends i d L (k + 1) = ends i d L k ++ wlk i k (d.getD k 0) (15 - d.getD k 0) (L.getD k []) := by
  unfold ends
  rw [List.range_succ, List.map_append, List.flatten_append]
  simp
theorem ends_le (i : Nat) (d : List Nat) (L : List Str) (B : Nat) (hB : 32 ≤ B) (hL : ∀ c, (L.getD c []).length ≤ B) : ∀ k, (ends i d L k).length ≤ B * k
  | 0 => by simp [ends]
  | k + 1 => by
    rw [ends_succ, List.length_append]
    have h1 := ends_le i d L B hB hL k
    have h2 := wlk_le i k (d.getD k 0) B hB (15 - d.getD k 0) _ (hL k)
    rw [Nat.mul_succ]
    omega
theorem getD_le {d : List Nat} (h : ∀ x ∈ d, x ≤ 15) (c : Nat) : d.getD c 0 ≤ 15 := by
  rw [List.getD_eq_getElem?_getD]
  by_cases hc : c < d.length
  · rw [List.getElem?_eq_getElem hc]; exact h _ (List.getElem_mem hc)
  · rw [List.getElem?_eq_none (by omega)]; simp
/-- a signature gives the leaf of its key -/
theorem ends_chn (seed : Str) (i : Nat) (d : List Nat) (hd : ∀ x ∈ d, x ≤ 15) (n : Nat) : ∀ k, k ≤ n → ends i d (chn seed i d n) k = tops seed i k
  | 0, _ => rfl
  | k + 1, hk => by
    rw [ends_succ, tops_succ, ends_chn seed i d hd n k (by omega)]
    have e : (chn seed i d n).getD k [] = wlk i k 0 (d.getD k 0) (sec seed i k) := by
      rw [List.getD_eq_getElem?_getD]
      simp [chn, show k < n by omega]
    have h15 := getD_le hd k
    rw [e]
    congr 1
    have := wlk_add i k 0 (d.getD k 0) (sec seed i k) (15 - d.getD k 0)
    rw [Nat.zero_add, show d.getD k 0 + (15 - d.getD k 0) = 15 by omega] at this
    exact this.symm
/-- if no digit of one message is less than that of another, then none is more -/
theorem csum_eq {a b : List Nat} (hl : a.length = b.length) (ha : ∀ x ∈ a, x ≤ 15) (hb : ∀ x ∈ b, x ≤ 15) (h : ∀ k (h1 : k < a.length) (h2 : k < b.length), b[k] ≤ a[k]) : lack a ≤ lack b ∧ (lack a = lack b → a = b) := by
  induction a generalizing b with
  | nil =>
    obtain rfl := List.eq_nil_of_length_eq_zero hl.symm
    exact ⟨Nat.le_refl _, fun _ => rfl⟩
  | cons x a ih =>
    cases b with
    | nil => cases hl
    | cons y b =>
      have h0 := h 0 (by simp) (by simp)
      simp only [List.getElem_cons_zero] at h0
      obtain ⟨i1, i2⟩ := ih (b := b) (by simpa using hl) (fun z hz => ha z (List.mem_cons_of_mem _ hz)) (fun z hz => hb z (List.mem_cons_of_mem _ hz)) (fun k h1 h2 => by
        have := h (k + 1) (by simpa using h1) (by simpa using h2)
        simpa using this)
      have x1 := ha x (List.mem_cons_self ..)
      have y1 := hb y (List.mem_cons_self ..)
      have ea : lack (x :: a) = (15 - x) + lack a := by simp [lack]
      have eb : lack (y :: b) = (15 - y) + lack b := by simp [lack]
      rw [ea, eb]
      refine ⟨by omega, fun e => ?_⟩
      rw [show x = y by omega, i2 (by omega)]
theorem tail3_len (n : Nat) : (tail3 n).length = 3 := rfl
theorem cover_abs {D E : List Nat} (la : D.length = 64) (lb : E.length = 64) (hD : ∀ x ∈ D, x ≤ 15) (hE : ∀ x ∈ E, x ≤ 15) (h : ∀ k (h1 : k < (D ++ tail3 (lack D)).length) (h2 : k < (E ++ tail3 (lack E)).length), (E ++ tail3 (lack E))[k] ≤ (D ++ tail3 (lack D))[k]) :
    D ++ tail3 (lack D) = E ++ tail3 (lack E) := by
  have main : ∀ k (h1 : k < D.length) (h2 : k < E.length), E[k] ≤ D[k] := fun k h1 h2 => by
    have := h k (by rw [List.length_append]; omega) (by rw [List.length_append]; omega)
    rw [List.getElem_append_left h1, List.getElem_append_left h2] at this
    exact this
  obtain ⟨c1, c2⟩ := csum_eq (by omega) hD hE main
  have m1 := lack_le D
  have m2 := lack_le E
  generalize lack D = x at h c1 c2 m1
  generalize lack E = y at h c1 c2 m2
  have t : ∀ j (hj : j < 3), (tail3 y)[j]'(by rw [tail3_len]; exact hj) ≤ (tail3 x)[j]'(by rw [tail3_len]; exact hj) := fun j hj => by
    have := h (64 + j) (by rw [List.length_append, tail3_len]; omega) (by rw [List.length_append, tail3_len]; omega)
    rw [List.getElem_append_right (by omega), List.getElem_append_right (by omega)] at this
    simpa [la, lb] using this
  have t0 := t 0 (by decide)
  have t1 := t 1 (by decide)
  have t2 := t 2 (by decide)
  simp [tail3] at t0 t1 t2
  have e : x = y := by omega
  rw [c2 e, e]
theorem dgs_cover (a b : Str) (h : ∀ k (h1 : k < (dgs a).length) (h2 : k < (dgs b).length), (dgs b)[k]'h2 ≤ (dgs a)[k]'h1) : dgs a = dgs b :=
  cover_abs (dl_sha a) (dl_sha b) (dl_le _) (dl_le _) h
end Go.Proofs.Ytnlpakalcckaiaa.Sg
