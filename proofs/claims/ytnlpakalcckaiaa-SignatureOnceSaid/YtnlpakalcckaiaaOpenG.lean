/-
  Slices of ints and of bools as they come in. Conditions: none.
-/
import Derived.Test.YtnlpakalcckaiaaFrame
import Derived.Deep.Strs
namespace Go.Proofs.Ytnlpakalcckaiaa
set_option linter.unusedVariables false
open Go.ChangeShapes hiding strs
open Go.WideShapes Go.ChangeAt Go.RowKit Go.Deep

theorem flat_len {α β : Type} (f : α → List β) (n : Nat) (hf : ∀ a, (f a).length = n) (L : List α) : (L.flatMap f).length = L.length * n := by
  induction L with
  | nil => simp
  | cons a L ih => simp only [List.flatMap_cons, List.length_append, hf, ih, List.length_cons]; rw [Nat.add_mul]; omega
theorem flat_get {α β : Type} (f : α → List β) (n : Nat) (hf : ∀ a, (f a).length = n) : ∀ (L : List α) (k j : Nat) (hk : k < L.length), j < n → (L.flatMap f)[k * n + j]? = (f L[k])[j]? := by
  intro L
  induction L with
  | nil => intro k j hk; simp at hk
  | cons a L ih =>
    intro k j hk hj
    cases k with
    | zero => simp only [List.flatMap_cons, Nat.zero_mul, Nat.zero_add, List.getElem_cons_zero]; rw [List.getElem?_append_left (by rw [hf]; exact hj)]
    | succ k =>
      simp only [List.flatMap_cons, List.getElem_cons_succ]
      rw [List.getElem?_append_right (by rw [hf, Nat.add_mul]; omega), hf]
      rw [← ih k j (by simpa using hk) hj]
      congr 1
      rw [Nat.add_mul]; omega
def ints (l : List Int) : List Value := l.map fun x => .int .i64 x
def bools (l : List Bool) : List Value := l.map fun b => .bool b
theorem bools_length (l : List Bool) : (bools l).length = l.length := by simp [bools]
section
variable {H : Type} {enc : TypeId × Value → H} {P : Program} {W : World}
/-- a slice that came in, element by element -/
theorem row_of {t e : TypeId} {m n : Nat} {cs : List Value} {x : DataW H × List MemPlace} (ht : P.underlying t = some (.slice e)) (hce : P.cellsOf e = m) (hm : 0 < m) (h : DataW.trod enc P W 0 (fun _ => true) true n t cs = some x) :
    ∃ (A : Option Addr) (l c : Nat) (f : Nat → List Value), cs = [.slice A l c] ∧ (A = none → l = 0 ∧ c = 0) ∧ l ≤ c ∧ c ≤ maxLen ∧ Rd W A ((List.range l).flatMap f) ∧ (∀ i, (f i).length = m) ∧ ∀ i, i < l → ∃ n' x', DataW.trod enc P W 0 (fun _ => true) true n' e (f i) = some x' := by
  rcases DataW.trod_slice ht h with ⟨hcs, hx⟩ | ⟨a, len, cap, elems, rest, n', _, hcs, _, _, hl, hmx, hlen, hel, _⟩
  · exact ⟨none, 0, 0, fun _ => List.replicate m default, hcs, fun _ => ⟨rfl, rfl⟩, Nat.le_refl _, by simp [maxLen], Rd.nil _ _, fun _ => by simp, fun i hi => by omega⟩
  · have each : ∀ i, i < len → ∃ ci : List Value, ci.length = m ∧ (∀ j (hj : j < ci.length), W.cell? ((a.add (i * m)).add j) = some ci[j]) ∧ ∃ x', DataW.trod enc P W 0 (fun _ => true) true n' e ci = some x' := by
      intro i hi
      have := hel i hi
      rw [List.getElem?_eq_getElem (by omega), hce, Option.bind_eq_some_iff] at this
      obtain ⟨ci, hci, ht'⟩ := this
      obtain ⟨_, h2, h3⟩ := World.cells?_some hci
      exact ⟨ci, h2, fun j hj => by rw [h3 j (by omega), List.getElem?_eq_getElem hj], _, ht'⟩
    obtain ⟨f, hf⟩ : ∃ f : Nat → List Value, ∀ i, (f i).length = m ∧ (i < len → (∀ j (hj : j < (f i).length), W.cell? ((a.add (i * m)).add j) = some (f i)[j]) ∧ ∃ x', DataW.trod enc P W 0 (fun _ => true) true n' e (f i) = some x') := by
      refine ⟨fun i => if hi : i < len then (each i hi).choose else List.replicate m default, fun i => ?_⟩
      by_cases hi : i < len
      · simp only [hi, dif_pos]
        have q := (each i hi).choose_spec
        exact ⟨q.1, fun _ => q.2⟩
      · simp [hi]
    refine ⟨some a, len, cap, f, hcs, (fun h => by cases h), hl, hmx, ?_, fun i => (hf i).1, fun i hi => ⟨n', (hf i).2 hi |>.2⟩⟩
    by_cases hz : len = 0
    · left; subst hz; rfl
    · obtain ⟨b, off, spot⟩ := a
      have hc0 := ((hf 0).2 (by omega)).1 0 (by rw [(hf 0).1]; exact hm)
      have hspot : spot = none := by simpa [Addr.add] using World.cell?_spot hc0
      subst hspot
      right
      refine ⟨b, off, rfl, fun j hj => ?_⟩
      have hjl : j < len * m := by rw [flat_len f m (fun i => (hf i).1)] at hj; simpa using hj
      have hd : j / m < len := Nat.div_lt_of_lt_mul (by rw [Nat.mul_comm]; exact hjl)
      have hr : j % m < m := Nat.mod_lt _ hm
      have hq := ((hf (j / m)).2 hd).1 (j % m) (by rw [(hf _).1]; exact hr)
      have hu : (f (j / m))[j % m]? = some ((f (j / m))[j % m]'(by rw [(hf _).1]; exact hr)) := List.getElem?_eq_getElem _
      generalize (f (j / m))[j % m]'(by rw [(hf _).1]; exact hr) = u at hq hu
      have e1 : off + j / m * m + j % m = off + j := by have := Nat.div_add_mod j m; rw [Nat.mul_comm] at this; omega
      rw [Addr.add_lit, Addr.add_lit, e1] at hq
      have hg := flat_get f m (fun i => (hf i).1) (List.range len) (j / m) (j % m) (by simpa using hd) hr
      have e2 : j / m * m + j % m = j := by have := Nat.div_add_mod j m; rw [Nat.mul_comm] at this; omega
      rw [e2, List.getElem_range, hu, List.getElem?_eq_getElem hj] at hg
      exact hq.trans hg.symm

theorem flat_map {α : Type} {l : Nat} {f : Nat → List Value} {g : Nat → α} {h : α → List Value} (hh : ∀ i, i < l → f i = h (g i)) : (List.range l).flatMap f = ((List.range l).map g).flatMap h := by
  rw [List.flatMap_map]
  induction l with
  | zero => rfl
  | succ l ih =>
    rw [List.range_succ, List.flatMap_append, List.flatMap_append, ih (fun i hi => hh i (by omega))]
    simp [hh l (by omega)]
/-- .. where each element is the image of something -/
theorem row_map {α : Type} [Inhabited α] {t e : TypeId} {m n : Nat} {cs : List Value} {x : DataW H × List MemPlace} {g : α → List Value} {Good : α → Prop} (ht : P.underlying t = some (.slice e)) (hce : P.cellsOf e = m) (hm : 0 < m)
    (hg : ∀ n' ci x', DataW.trod enc P W 0 (fun _ => true) true n' e ci = some x' → ∃ a, ci = g a ∧ Good a) (h : DataW.trod enc P W 0 (fun _ => true) true n t cs = some x) :
    ∃ (A : Option Addr) (L : List α) (c : Nat), cs = [.slice A L.length c] ∧ (A = none → L.length = 0 ∧ c = 0) ∧ L.length ≤ c ∧ c ≤ maxLen ∧ Rd W A (L.flatMap g) ∧ ∀ a ∈ L, Good a := by
  obtain ⟨A, l, c, f, h1, h2, h3, h4, h5, h6, h7⟩ := row_of ht hce hm h
  have each : ∀ i, i < l → ∃ a, f i = g a ∧ Good a := fun i hi => by obtain ⟨n', x', hx⟩ := h7 i hi; exact hg n' _ x' hx
  obtain ⟨k, hk⟩ : ∃ k : Nat → α, ∀ i, i < l → f i = g (k i) ∧ Good (k i) :=
    ⟨fun i => if hi : i < l then (each i hi).choose else default, fun i hi => by simp only [hi, dif_pos]; exact (each i hi).choose_spec⟩
  refine ⟨A, (List.range l).map k, c, by simpa using h1, by simpa using h2, by simpa using h3, h4, ?_, ?_⟩
  · rw [← flat_map (fun i hi => (hk i hi).1)]; exact h5
  · intro a ha
    obtain ⟨i, hi, rfl⟩ := List.mem_map.1 ha
    exact (hk i (List.mem_range.1 hi)).2

theorem ints_flat (L : List Int) : L.flatMap (fun x => [Value.int .i64 x]) = ints L := by
  induction L with
  | nil => rfl
  | cons x L ih => simp only [List.flatMap_cons, ih]; rfl
/-- a slice of ints -/
theorem ints_of {t e : TypeId} {n : Nat} {cs : List Value} {x : DataW H × List MemPlace} (ht : P.underlying t = some (.slice e)) (he : P.underlying e = some (.int .i64)) (hce : P.cellsOf e = 1) (h : DataW.trod enc P W 0 (fun _ => true) true n t cs = some x) :
    ∃ (A : Option Addr) (L : List Int) (c : Nat), cs = [.slice A L.length c] ∧ (A = none → L.length = 0 ∧ c = 0) ∧ L.length ≤ c ∧ c ≤ maxLen ∧ Rd W A (ints L) := by
  obtain ⟨A, L, c, h1, h2, h3, h4, h5, _⟩ := row_map (g := fun x => [Value.int .i64 x]) (Good := fun _ => True) ht hce (by decide) (fun n' ci x' hx => by obtain ⟨k, hk, _, _⟩ := DataW.trod_int he hx; exact ⟨k, hk, trivial⟩) h
  exact ⟨A, L, c, h1, h2, h3, h4, by rw [ints_flat] at h5; exact h5⟩
theorem open_ints {t e : TypeId} {v : Value} {d : DataW H} {p : List MemPlace} {base : Nat} (ht : P.underlying t = some (.slice e)) (he : P.underlying e = some (.int .i64)) (hce : P.cellsOf e = 1) (hok : Value.okWide P W .any base t v) (h : DataW.Trod enc P W 0 (fun _ => true) true t v d p) :
    ∃ (A : Option Addr) (L : List Int) (c : Nat), v = .slice A L.length c ∧ (A = none → L.length = 0 ∧ c = 0) ∧ L.length ≤ c ∧ c ≤ maxLen ∧ Rd W A (ints L) := by
  obtain ⟨a0, len, cap, rfl⟩ := okWide_slice ht hok
  obtain ⟨fuel, hf⟩ := h
  obtain ⟨A, L, c, h1, h2⟩ := ints_of ht he hce hf
  simp [Value.cells] at h1
  obtain ⟨rfl, rfl, rfl⟩ := h1
  exact ⟨_, L, _, rfl, h2⟩

theorem bools_flat (L : List Bool) : L.flatMap (fun x => [Value.bool x]) = bools L := by
  induction L with
  | nil => rfl
  | cons x L ih => simp only [List.flatMap_cons, ih]; rfl
/-- a slice of bools -/
theorem open_bools {t e : TypeId} {v : Value} {d : DataW H} {p : List MemPlace} {base : Nat} (ht : P.underlying t = some (.slice e)) (he : P.underlying e = some .bool) (hce : P.cellsOf e = 1) (hok : Value.okWide P W .any base t v) (h : DataW.Trod enc P W 0 (fun _ => true) true t v d p) :
    ∃ (A : Option Addr) (L : List Bool) (c : Nat), v = .slice A L.length c ∧ (A = none → L.length = 0 ∧ c = 0) ∧ L.length ≤ c ∧ c ≤ maxLen ∧ Rd W A (bools L) := by
  obtain ⟨a0, len, cap, rfl⟩ := okWide_slice ht hok
  obtain ⟨fuel, hf⟩ := h
  obtain ⟨A, L, c, h1, h2, h3, h4, h5, _⟩ := row_map (g := fun x => [Value.bool x]) (Good := fun _ => True) ht hce (by decide) (fun n' ci x' hx => by obtain ⟨k, hk, _⟩ := DataW.trod_bool he hx; exact ⟨k, hk, trivial⟩) hf
  simp [Value.cells] at h1
  obtain ⟨rfl, rfl, rfl⟩ := h1
  exact ⟨_, L, _, rfl, h2, h3, h4, by rw [bools_flat] at h5; exact h5⟩
end
end Go.Proofs.Ytnlpakalcckaiaa
