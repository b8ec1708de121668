/-
  Resources in memory that lie apart: a list of them is held in a world, all blocks from a bound on; a call turns the first, and the others stay. Conditions: none.
-/
import Derived.Test.YtiklfjehhdbhfaaKit
import Derived.Maps.AppendAt
namespace Go.Proofs.Ytiklfjehhdbhfaa
set_option linter.unusedVariables false
open Go.RowKit

/-- a thing in memory, with the blocks that it takes -/
structure Res where
  P : World → (Nat → Prop) → Prop
  lt : ∀ {w F}, P w F → ∀ k, F k → k < w.heap.size
  mod : ∀ {w w' F G}, P w F → Mod G w w' → (∀ k, F k → ¬ G k) → P w' F

/-- the things of the list lie apart, in blocks of U -/
def Held (w : World) : List Res → (Nat → Prop) → Prop
  | [], _ => True
  | R :: Rs, U => ∃ F V, R.P w F ∧ Held w Rs V ∧ (∀ k, F k → U k ∧ ¬ V k) ∧ ∀ k, V k → U k
theorem Held.mono {w : World} : ∀ {Rs : List Res} {U V : Nat → Prop}, Held w Rs U → (∀ k, U k → V k) → Held w Rs V
  | [], _, _, _, _ => trivial
  | R :: Rs, U, V, ⟨F, W, h1, h2, h3, h4⟩, h => ⟨F, W, h1, h2, fun k hk => ⟨h k (h3 k hk).1, (h3 k hk).2⟩, fun k hk => h k (h4 k hk)⟩
theorem Held.lt {w : World} : ∀ {Rs : List Res} {U : Nat → Prop}, Held w Rs U → Held w Rs (fun k => U k ∧ k < w.heap.size)
  | [], _, _ => trivial
  | R :: Rs, U, ⟨F, W, h1, h2, h3, h4⟩ => ⟨F, fun k => W k ∧ k < w.heap.size, h1, Held.lt h2, fun k hk => ⟨⟨(h3 k hk).1, R.lt h1 k hk⟩, fun hw => (h3 k hk).2 hw.1⟩, fun k hk => ⟨h4 k hk.1, hk.2⟩⟩
theorem Held.mod {w w' : World} {G : Nat → Prop} (hm : Mod G w w') : ∀ {Rs : List Res} {U : Nat → Prop}, Held w Rs U → (∀ k, U k → ¬ G k) → Held w' Rs U
  | [], _, _, _ => trivial
  | R :: Rs, U, ⟨F, W, h1, h2, h3, h4⟩, h => ⟨F, W, R.mod h1 hm (fun k hk => h k (h3 k hk).1), Held.mod hm h2 (fun k hk => h k (h4 k hk)), h3, h4⟩
theorem Held.swap {w : World} {R S : Res} {Rs : List Res} {U : Nat → Prop} (h : Held w (R :: S :: Rs) U) : Held w (S :: R :: Rs) U := by
  obtain ⟨F, V, h1, ⟨G, W, g1, g2, g3, g4⟩, h3, h4⟩ := h
  exact ⟨G, fun k => F k ∨ W k, g1, ⟨F, W, h1, g2, fun k hk => ⟨.inl hk, fun hw => (h3 k hk).2 (g4 k hw)⟩, fun k hk => .inr hk⟩,
    fun k hk => ⟨h4 k (g3 k hk).1, fun hf => by rcases hf with hf | hf; exact (h3 k hf).2 (g3 k hk).1; exact (g3 k hk).2 hf⟩,
    fun k hk => by rcases hk with hk | hk; exact (h3 k hk).1; exact h4 k (g4 k hk)⟩
theorem Held.tail {w : World} {R : Res} {Rs : List Res} {U : Nat → Prop} (h : Held w (R :: Rs) U) : Held w Rs U := by
  obtain ⟨F, V, h1, h2, h3, h4⟩ := h
  exact h2.mono h4
theorem Held.cons {w : World} {R : Res} {Rs Rs' : List Res} {U : Nat → Prop} (h : Held w (R :: Rs) U) (hr : ∀ V, Held w Rs V → Held w Rs' V) : Held w (R :: Rs') U := by
  obtain ⟨F, V, h1, h2, h3, h4⟩ := h
  exact ⟨F, V, h1, hr V h2, h3, h4⟩
theorem Held.front {w : World} : ∀ (i : Nat) {Rs : List Res} {U : Nat → Prop} (hi : i < Rs.length), Held w Rs U → Held w (Rs[i] :: Rs.eraseIdx i) U
  | 0, R :: Rs, _, _, h => h
  | i + 1, R :: Rs, U, hi, h => (h.cons (Rs' := Rs[i]'(by simpa using hi) :: Rs.eraseIdx i) (fun V hv => Held.front i (by simpa using hi) hv)).swap

/-- a thing that never is -/
def noR : Res where
  P _ _ := False
  lt h := h.elim
  mod h := h.elim
theorem Held.each {w : World} : ∀ {Rs : List Res} {U : Nat → Prop}, Held w Rs U → ∃ f : Nat → Nat → Prop, (∀ i, i < Rs.length → (Rs.getD i noR).P w (f i) ∧ ∀ k, f i k → U k) ∧ ∀ i j, i < Rs.length → j < Rs.length → i ≠ j → ∀ k, f i k → ¬ f j k
  | [], _, _ => ⟨fun _ _ => False, fun i hi => absurd hi (Nat.not_lt_zero _), fun i _ hi => absurd hi (Nat.not_lt_zero _)⟩
  | R :: Rs, U, ⟨F, V, h1, h2, h3, h4⟩ => by
    obtain ⟨f, f1, f2⟩ := Held.each h2
    refine ⟨fun i => match i with | 0 => F | i + 1 => f i, fun i hi => ?_, fun i j hi hj hne => ?_⟩
    · cases i with
      | zero => exact ⟨h1, fun k hk => (h3 k hk).1⟩
      | succ i => exact ⟨(f1 i (by simpa using hi)).1, fun k hk => h4 k ((f1 i (by simpa using hi)).2 k hk)⟩
    · cases i with
      | zero =>
        cases j with
        | zero => exact absurd rfl hne
        | succ j => exact fun k hk hg => (h3 k hk).2 ((f1 j (by simpa using hj)).2 k hg)
      | succ i =>
        cases j with
        | zero => exact fun k hk hg => (h3 k hg).2 ((f1 i (by simpa using hi)).2 k hk)
        | succ j => exact f2 i j (by simpa using hi) (by simpa using hj) (fun e => hne (by rw [e]))
theorem Held.of {w : World} : ∀ {Rs : List Res} {U : Nat → Prop} (f : Nat → Nat → Prop), (∀ i, i < Rs.length → (Rs.getD i noR).P w (f i) ∧ ∀ k, f i k → U k) → (∀ i j, i < Rs.length → j < Rs.length → i ≠ j → ∀ k, f i k → ¬ f j k) → Held w Rs U
  | [], _, _, _, _ => trivial
  | R :: Rs, U, f, f1, f2 => by
    refine ⟨f 0, fun k => ∃ i, i < Rs.length ∧ f (i + 1) k, (f1 0 (by simp)).1, Held.of (fun i => f (i + 1)) (fun i hi => ⟨(f1 (i + 1) (by simpa using hi)).1, fun k hk => ⟨i, hi, hk⟩⟩) (fun i j hi hj hne => f2 (i + 1) (j + 1) (by simpa using hi) (by simpa using hj) (by omega)), fun k hk => ⟨(f1 0 (by simp)).2 k hk, fun ⟨i, hi, hg⟩ => f2 0 (i + 1) (by simp) (by simpa using hi) (by omega) k hk hg⟩, fun k ⟨i, hi, hk⟩ => (f1 (i + 1) (by simpa using hi)).2 k hk⟩
theorem Held.pick {w : World} {Rs : List Res} {U : Nat → Prop} (h : Held w Rs U) (is : List Nat) (hn : is.Nodup) (hb : ∀ i ∈ is, i < Rs.length) : Held w (is.map (fun i => Rs.getD i noR)) U := by
  obtain ⟨f, f1, f2⟩ := h.each
  refine Held.of (fun j => f (is.getD j 0)) (fun j hj => ?_) (fun i j hi hj hne => ?_)
  · have hj' : j < is.length := by simpa using hj
    have := f1 (is.getD j 0) (hb _ (by simp [hj']))
    simpa [hj', List.getD] using this
  · have hi' : i < is.length := by simpa using hi
    have hj' : j < is.length := by simpa using hj
    refine f2 _ _ (hb _ (by simp [hi'])) (hb _ (by simp [hj'])) (fun e => hne ?_)
    simp [hi', hj'] at e
    exact (List.getElem_inj hn).1 e

/-- the state of a call that began in w0: old memory is as it was, the things of the list lie apart in blocks from lo on -/
structure St (lo : Nat) (w0 w : World) (Rs : List Res) : Prop where
  below : Below lo w0 w
  base : lo ≤ w0.heap.size
  held : Held w Rs (fun k => lo ≤ k)
section
variable {lo : Nat} {w0 w w' : World} {R S R' S' : Res} {Rs : List Res}
theorem St.nil (w : World) : St w.heap.size w w [] := ⟨Below.refl _ w, Nat.le_refl _, trivial⟩
theorem St.size (h : St lo w0 w Rs) : lo ≤ w.heap.size := Nat.le_trans h.base h.below.size
theorem St.front (i : Nat) (hi : i < Rs.length) (h : St lo w0 w Rs) : St lo w0 w (Rs[i] :: Rs.eraseIdx i) := ⟨h.below, h.base, h.held.front i hi⟩
theorem St.pick (is : List Nat) (hn : is.Nodup) (hb : ∀ i ∈ is, i < Rs.length) (h : St lo w0 w Rs) : St lo w0 w (is.map (fun i => Rs.getD i noR)) := ⟨h.below, h.base, h.held.pick is hn hb⟩
theorem St.swap (h : St lo w0 w (R :: S :: Rs)) : St lo w0 w (S :: R :: Rs) := ⟨h.below, h.base, h.held.swap⟩
theorem St.tail (h : St lo w0 w (R :: Rs)) : St lo w0 w Rs := ⟨h.below, h.base, h.held.tail⟩
theorem St.rot (h : St lo w0 w (R :: Rs)) : St lo w0 w (Rs ++ [R]) := by
  suffices H : ∀ (Rs : List Res) (U : Nat → Prop), Held w (R :: Rs) U → Held w (Rs ++ [R]) U from ⟨h.below, h.base, H _ _ h.held⟩
  intro Rs
  induction Rs with
  | nil => intro U h; exact h
  | cons S Rs ih => intro U h; exact h.swap.cons (fun V hv => ih V hv)
/-- what is held, taken apart: the first thing may be turned -/
theorem St.open (h : St lo w0 w (R :: Rs)) : ∃ F, R.P w F ∧ (∀ k, F k → lo ≤ k) ∧
    ∀ {w' F'} (R' : Res), Mod F w w' → R'.P w' F' → (∀ k, F' k → F k ∨ w.heap.size ≤ k) → St lo w0 w' (R' :: Rs) := by
  obtain ⟨hb, h0, F, V, h1, h2, h3, h4⟩ := h
  have hs := Nat.le_trans h0 hb.size
  refine ⟨F, h1, fun k hk => (h3 k hk).1, fun {w' F'} R' hm hR hF => ⟨hb.trans (hm.below hs (fun i hi hf => by have := (h3 i hf).1; omega)), h0, F', fun k => V k ∧ k < w.heap.size, hR, (h2.lt).mod hm (fun k hk hf => (h3 k hf).2 hk.1), fun k hk => ?_, fun k hk => h4 k hk.1⟩⟩
  rcases hF k hk with e | e
  · exact ⟨(h3 k e).1, fun hv => (h3 k e).2 hv.1⟩
  · exact ⟨by omega, fun hv => by omega⟩
/-- .. the first two things -/
theorem St.open2 (h : St lo w0 w (R :: S :: Rs)) : ∃ F G, R.P w F ∧ S.P w G ∧ (∀ k, F k → lo ≤ k) ∧ (∀ k, G k → lo ≤ k) ∧ (∀ k, F k → ¬ G k) ∧
    ∀ {w' F' G'} (R' S' : Res), Mod (fun k => F k ∨ G k) w w' → R'.P w' F' → S'.P w' G' → (∀ k, F' k → F k ∨ w.heap.size ≤ k) → (∀ k, G' k → G k ∨ w.heap.size ≤ k) → (∀ k, F' k → ¬ G' k) → St lo w0 w' (R' :: S' :: Rs) := by
  obtain ⟨hb, h0, F, V, h1, ⟨G, W, g1, g2, g3, g4⟩, h3, h4⟩ := h
  have hs := Nat.le_trans h0 hb.size
  have hG : ∀ k, G k → lo ≤ k := fun k hk => h4 k (g3 k hk).1
  refine ⟨F, G, h1, g1, fun k hk => (h3 k hk).1, hG, fun k hf hg => (h3 k hf).2 (g3 k hg).1, fun {w' F' G'} R' S' hm hR hS hF hGG hd => ⟨hb.trans (hm.below hs (fun i hi hf => by rcases hf with hf | hf; have := (h3 i hf).1; omega; have := hG i hf; omega)), h0, F', fun k => G' k ∨ (W k ∧ k < w.heap.size), hR, ⟨G', fun k => W k ∧ k < w.heap.size, hS, (g2.lt).mod hm (fun k hk hf => by rcases hf with hf | hf; exact (h3 k hf).2 (g4 k hk.1); exact (g3 k hf).2 hk.1), fun k hk => ⟨.inl hk, fun hw => ?_⟩, fun k hk => .inr hk⟩, fun k hk => ⟨?_, fun hw => ?_⟩, fun k hk => ?_⟩⟩
  · rcases hGG k hk with e | e
    · exact (g3 k e).2 hw.1
    · omega
  · rcases hF k hk with e | e
    · exact (h3 k e).1
    · show lo ≤ k; omega
  · rcases hw with hw | hw
    · exact hd k hk hw
    · rcases hF k hk with e | e
      · exact (h3 k e).2 (g4 k hw.1)
      · omega
  · rcases hk with hk | hk
    · rcases hGG k hk with e | e
      · exact hG k e
      · show lo ≤ k; omega
    · exact h4 k (g4 k hk.1)
/-- .. the first thing falls into two -/
theorem St.split (h : St lo w0 w (R :: Rs)) : ∃ F, R.P w F ∧ (∀ k, F k → lo ≤ k) ∧
    ∀ {w' F' G'} (R' S' : Res), Mod F w w' → R'.P w' F' → S'.P w' G' → (∀ k, F' k → F k ∨ w.heap.size ≤ k) → (∀ k, G' k → F k ∨ w.heap.size ≤ k) → (∀ k, F' k → ¬ G' k) → St lo w0 w' (R' :: S' :: Rs) := by
  obtain ⟨hb, h0, F, V, h1, h2, h3, h4⟩ := h
  have hs := Nat.le_trans h0 hb.size
  refine ⟨F, h1, fun k hk => (h3 k hk).1, fun {w' F' G'} R' S' hm hR hS hF hG hd => ⟨hb.trans (hm.below hs (fun i hi hf => by have := (h3 i hf).1; omega)), h0, F', fun k => G' k ∨ (V k ∧ k < w.heap.size), hR, ⟨G', fun k => V k ∧ k < w.heap.size, hS, (h2.lt).mod hm (fun k hk hf => (h3 k hf).2 hk.1), fun k hk => ⟨.inl hk, fun hw => ?_⟩, fun k hk => .inr hk⟩, fun k hk => ⟨?_, fun hw => ?_⟩, fun k hk => ?_⟩⟩
  · rcases hG k hk with e | e
    · exact (h3 k e).2 hw.1
    · omega
  · rcases hF k hk with e | e
    · exact (h3 k e).1
    · show lo ≤ k; omega
  · rcases hw with hw | hw
    · exact hd k hk hw
    · rcases hF k hk with e | e
      · exact (h3 k e).2 hw.1
      · omega
  · rcases hk with hk | hk
    · rcases hG k hk with e | e
      · exact (h3 k e).1
      · show lo ≤ k; omega
    · exact h4 k hk.1
theorem St.turn (h : St lo w0 w (R :: Rs)) (hi : ∀ F, R.P w F → R'.P w F) : St lo w0 w (R' :: Rs) := by
  obtain ⟨hb, h0, F, V, h1, h2⟩ := h
  exact ⟨hb, h0, F, V, hi F h1, h2⟩
theorem St.under (h : St lo w0 w Rs) (hb : Below w.heap.size w w') : St lo w0 w' Rs :=
  ⟨h.below.trans (hb.mono h.size), h.base, (h.held.lt.mod (Mod.of_below hb (fun _ => False)) (fun _ _ h => h)).mono (fun k hk => hk.1)⟩
theorem St.drew (h : St lo w0 w Rs) : St lo w0 w.drew Rs := h.under (Below.refl _ w).drew
theorem St.drewN (h : St lo w0 w Rs) (n : Nat) : St lo w0 (w.drewN n) Rs := h.under (((Mod.refl (fun _ => False) w).drewN n).below (Nat.le_refl _) (fun _ _ h => h))
/-- a new thing -/
theorem St.new {F : Nat → Prop} (h : St lo w0 w Rs) (hb : Below w.heap.size w w') (hR : R.P w' F) (hF : ∀ k, F k → w.heap.size ≤ k) : St lo w0 w' (R :: Rs) := by
  have hs := h.size
  refine ⟨h.below.trans (hb.mono hs), h.base, F, fun k => lo ≤ k ∧ k < w.heap.size, hR, h.held.lt.mod (Mod.of_below hb (fun _ => False)) (fun _ _ h => h), fun k hk => ?_, fun k hk => hk.1⟩
  have := hF k hk
  exact ⟨by omega, fun hv => by omega⟩
/-- two new things -/
theorem St.new2 {F G : Nat → Prop} (h : St lo w0 w Rs) (hb : Below w.heap.size w w') (hR : R.P w' F) (hS : S.P w' G) (hF : ∀ k, F k → w.heap.size ≤ k) (hG : ∀ k, G k → w.heap.size ≤ k) (hd : ∀ k, F k → ¬ G k) : St lo w0 w' (R :: S :: Rs) := by
  obtain ⟨h1, h2, G', V, h3, h4, h5, h6⟩ := h.new hb hS hG
  refine ⟨h1, h2, F, fun k => G k ∨ (lo ≤ k ∧ k < w.heap.size), hR, ⟨G, fun k => lo ≤ k ∧ k < w.heap.size, hS, h.held.lt.mod (Mod.of_below hb (fun _ => False)) (fun _ _ h => h), fun k hk => ⟨.inl hk, fun hv => by have := hG k hk; omega⟩, fun k hk => .inr hk⟩, fun k hk => ?_, fun k hk => ?_⟩
  · have := hF k hk
    have := h.size
    exact ⟨by omega, fun hv => by rcases hv with hv | hv; exact hd k hk hv; omega⟩
  · rcases hk with hk | hk
    · have := hG k hk
      have := h.size
      show lo ≤ k
      omega
    · exact hk.1
end

/-- block g holds the cells cs of type t -/
def cellsR (g : Nat) (t : TypeId) (cs : Array Value) : Res where
  P w F := Blk w g t cs ∧ F = (fun k => k = g)
  lt h k hk := by obtain ⟨hb, rfl⟩ := h; subst hk; exact hb.lt
  mod h hm hG := by obtain ⟨hb, rfl⟩ := h; exact ⟨hb.mod hm (hG _ rfl), rfl⟩
/-- a row of the call's own -/
def ownR (e : TypeId) (size : Nat) (v : Value) (n : Nat) (xs : List Value) : Res where
  P w F := w.ownsRow 0 e size v n xs ∧ (∀ k, v.ownBlock = some k → F k) ∧ ∀ k, F k → k < w.heap.size
  lt h := h.2.2
  mod h hm hG := ⟨hm.owns h.1 (fun k hk => hG k (h.2.1 k hk)), h.2.1, fun k hk => Nat.lt_of_lt_of_le (h.2.2 k hk) hm.size⟩
/-- cells that are only read -/
def rdR (A : Option Addr) (xs : List Value) : Res where
  P w F := Rd w A xs ∧ (xs ≠ [] → ∀ p, A = some p → F p.block) ∧ ∀ k, F k → k < w.heap.size
  lt h := h.2.2
  mod h hm hG := by
    refine ⟨?_, h.2.1, fun k hk => Nat.lt_of_lt_of_le (h.2.2 k hk) hm.size⟩
    by_cases hx : xs = []
    · exact .inl hx
    · exact h.1.mod hm (fun p hp => hG _ (h.2.1 hx p hp))
section
variable {lo : Nat} {w0 w w' : World} {Rs : List Res} {g : Nat} {t e : TypeId} {cs : Array Value} {v : Value} {n size : Nat} {xs : List Value} {A : Option Addr}
theorem St.blk (h : St lo w0 w (cellsR g t cs :: Rs)) : Blk w g t cs := by
  obtain ⟨_, _, F, V, h1, _⟩ := h
  exact h1.1
theorem St.own (h : St lo w0 w (ownR e size v n xs :: Rs)) : w.ownsRow 0 e size v n xs := by
  obtain ⟨_, _, F, V, h1, _⟩ := h
  exact h1.1
theorem St.rd (h : St lo w0 w (rdR A xs :: Rs)) : Rd w A xs := by
  obtain ⟨_, _, F, V, h1, _⟩ := h
  exact h1.1
theorem St.alloc (h : St lo w0 w Rs) (t : TypeId) (cs : Array Value) : St lo w0 (w.alloc (.cells cs t)) (cellsR w.heap.size t cs :: Rs) :=
  h.new ((Below.refl _ w).alloc (Nat.le_refl _) _) ⟨Blk.new w t cs, rfl⟩ (fun k hk => by subst hk; exact Nat.le_refl _)
theorem St.alloc0 (h : St lo w0 w Rs) (o : Obj) : St lo w0 (w.alloc o) Rs := h.under ((Below.refl _ w).alloc (Nat.le_refl _) _)
theorem St.set_ (h : St lo w0 w (cellsR g t cs :: Rs)) (i : Nat) (u : Value) : St lo w0 (w.setCell ⟨g, i, none⟩ u) (cellsR g t (cs.setIfInBounds i u) :: Rs) := by
  obtain ⟨F, h1, h2, h3⟩ := h.open
  obtain ⟨hb, rfl⟩ := h1
  exact h3 (F' := fun k => k = g) _ (mod_set w g i u) ⟨hb.set_ i u, rfl⟩ (fun k hk => .inl hk)
theorem St.new_own (h : St lo w0 w Rs) (hb : Below w.heap.size w w') (ho : w'.ownsRow w.heap.size e size v n xs) : St lo w0 w' (ownR e size v n xs :: Rs) :=
  h.new (F := fun k => v.ownBlock = some k) hb ⟨owns_base ho (fun _ _ => Nat.zero_le _), fun k hk => hk, fun k hk => (ho.lt k hk).2⟩ (fun k hk => (ho.lt k hk).1)
theorem St.new_rd (h : St lo w0 w Rs) (hb : Below w.heap.size w w') (ho : Rd w' A xs) (hn : xs ≠ [] → ∀ p, A = some p → w.heap.size ≤ p.block) : St lo w0 w' (rdR A xs :: Rs) := by
  refine h.new (F := fun k => xs ≠ [] ∧ ∃ p, A = some p ∧ p.block = k) hb ⟨ho, fun hx p hp => ⟨hx, p, hp, rfl⟩, fun k hk => ?_⟩ (fun k hk => ?_)
  · obtain ⟨hx, p, hp, rfl⟩ := hk
    obtain ⟨q, hq, hl⟩ := ho.lt hx
    rw [hp] at hq
    injection hq with hq
    subst hq
    exact hl
  · obtain ⟨hx, p, hp, rfl⟩ := hk
    exact hn hx p hp
theorem St.shift {v' : Value} {n' : Nat} {xs' : List Value} (h : St lo w0 w (ownR e size v n xs :: Rs)) (ho : w'.ownsRow 0 e size v' n' xs') (hg : w.grownBy w' v.ownBlock) (hat : v'.ownBlock = v.ownBlock ∨ v'.ownBlock = some w.heap.size) :
    St lo w0 w' (ownR e size v' n' xs' :: Rs) := by
  obtain ⟨F, h1, h2, h3⟩ := h.open
  have hm : Mod F w w' := ⟨hg.os, hg.tape, hg.output, hg.size, fun k hk hn => hg.block k hk (fun e => hn (h1.2.1 k e.symm))⟩
  refine h3 (F' := fun k => v'.ownBlock = some k) (ownR e size v' n' xs') hm ⟨ho, fun k hk => hk, fun k hk => (ho.lt k hk).2⟩ (fun k hk => ?_)
  rcases hat with e | e
  · left; rw [e] at hk; exact h1.2.1 k hk
  · right; rw [e] at hk; injection hk with hk; omega
/-- 'append' to a row of the call's own, in a plain region -/
theorem appendM {P : Program} {ops : Array Oper} {rest : List Oper} {o : Oper} {a : Act} {Q : Exit → Act → World → Prop} (t : TypeId) {z : Value} {bytes : Nat}
    (h : St lo w0 w (ownR e size v n xs :: Rs)) (ht : P.underlying t = some (.slice e)) (hi : (P.info? e).map (fun i => (i.zero, i.size, i.bytes)) = some (some z, size, bytes)) (hzs : z.cells.size = size) (hsz : 0 < size)
    (hgd : o.guard = none) (s x : Operand) (ho : o.op = .call { callee := .builtin .append, args := #[s, x], argTypes := #[t, t] })
    (hs : a.eval s = v) (ad : Addr) (m c : Nat) (news : List Value) (hx : a.eval x = .slice (some ad) m c) (hl : news.length = m * size) (hnews : ∀ j u, news[j]? = some u → w.cell? (ad.add j) = some u) (h1 : ∀ u ∈ news, u.oneCell' = true)
    (h63 : n + m ≤ maxLen) (hbytes : (n + m) * bytes ≤ 140737488355328)
    (hk : ∀ v' w', St lo w0 w' (ownR e size v' (n + m) (xs ++ news) :: Rs) → wpList P ops Q rest (a.put o.dst v') w') : wpList P ops Q (o :: rest) a w := by
  obtain ⟨i, hi', i1, i2, i3⟩ := info_parts hi
  exact wpList_append_own_at w hgd s x t ho 0 e i z size bytes ht hi' i1 i2 i3 hzs hsz v n xs hs h.own ad m c news hx hl hnews h1 h63 hbytes (Nat.zero_le _) (fun v' w' r1 r2 _ r4 => hk v' w' (h.shift r1 r2 r4))
/-- .. of one element, in the block just laid -/
theorem appendO {P : Program} {ops : Array Oper} {rest : List Oper} {o : Oper} {a : Act} {Q : Exit → Act → World → Prop} (t : TypeId) {z : Value} {bytes : Nat} {w : World} {u : Value} {te : TypeId}
    (h : St lo w0 w (ownR e 1 v n xs :: Rs)) (ht : P.underlying t = some (.slice e)) (hi : (P.info? e).map (fun i => (i.zero, i.size, i.bytes)) = some (some z, 1, bytes)) (hzs : z.cells.size = 1)
    (hgd : o.guard = none) (s x : Operand) (ho : o.op = .call { callee := .builtin .append, args := #[s, x], argTypes := #[t, t] })
    (hs : a.eval s = v) (hx : a.eval x = .slice (some ⟨w.heap.size, 0, none⟩) 1 1) (hu : u.oneCell' = true) (h63 : n + 1 ≤ maxLen) (hbytes : (n + 1) * bytes ≤ 140737488355328)
    (hk : ∀ v' w', St lo w0 w' (ownR e 1 v' (n + 1) (xs ++ [u]) :: Rs) → wpList P ops Q rest (a.put o.dst v') w') : wpList P ops Q (o :: rest) a (w.alloc (.cells #[u] te)) := by
  refine appendM t (h.alloc0 _) ht hi hzs (by decide) hgd s x ho hs ⟨w.heap.size, 0, none⟩ 1 1 [u] hx rfl ?_ ?_ h63 hbytes hk
  · intro j y hj
    match j, hj with
    | 0, hj => simp at hj; subst hj; simp [Addr.add]
  · intro y hy; simp at hy; subst hy; exact hu
end

/-! ### a list of things as one thing -/
def groupR (Ps : List Res) : Res where
  P w F := Held w Ps F ∧ ∀ k, F k → k < w.heap.size
  lt h := h.2
  mod h hm hG := ⟨h.1.mod hm hG, fun k hk => Nat.lt_of_lt_of_le (h.2 k hk) hm.size⟩
theorem Held.append {w : World} : ∀ {Ps Rs : List Res} {F V U : Nat → Prop}, Held w Ps F → Held w Rs V → (∀ k, F k → U k ∧ ¬ V k) → (∀ k, V k → U k) → Held w (Ps ++ Rs) U
  | [], Rs, F, V, U, _, h2, _, h4 => h2.mono h4
  | P :: Ps, Rs, F, V, U, ⟨G, W, g1, g2, g3, g4⟩, h2, h3, h4 =>
    ⟨G, fun k => W k ∨ V k, g1, g2.append h2 (fun k hk => ⟨.inl hk, (h3 k (g4 k hk)).2⟩) (fun k hk => .inr hk), fun k hk => ⟨(h3 k (g3 k hk).1).1, fun hw => by rcases hw with hw | hw; exact (g3 k hk).2 hw; exact (h3 k (g3 k hk).1).2 hw⟩,
      fun k hk => by rcases hk with hk | hk; exact (h3 k (g4 k hk)).1; exact h4 k hk⟩
theorem Held.parts {w : World} : ∀ {Ps Rs : List Res} {U : Nat → Prop}, Held w (Ps ++ Rs) U → ∃ F V, Held w Ps F ∧ Held w Rs V ∧ (∀ k, F k → U k ∧ ¬ V k) ∧ ∀ k, V k → U k
  | [], Rs, U, h => ⟨fun _ => False, U, trivial, h, fun k hk => hk.elim, fun k hk => hk⟩
  | P :: Ps, Rs, U, ⟨G, W, g1, g2, g3, g4⟩ => by
    obtain ⟨F, V, h1, h2, h3, h4⟩ := Held.parts g2
    exact ⟨fun k => G k ∨ F k, V, ⟨G, F, g1, h1, fun k hk => ⟨.inl hk, fun hf => (g3 k hk).2 (h3 k hf).1⟩, fun k hk => .inr hk⟩, h2,
      fun k hk => by rcases hk with hk | hk; exact ⟨(g3 k hk).1, fun hv => (g3 k hk).2 (h4 k hv)⟩; exact ⟨g4 k (h3 k hk).1, (h3 k hk).2⟩, fun k hk => g4 k (h4 k hk)⟩
theorem Held.back {w : World} {R : Res} : ∀ (i : Nat) {Rs : List Res} {U : Nat → Prop}, i < Rs.length → Held w (R :: Rs.eraseIdx i) U → Held w (Rs.set i R) U
  | 0, S :: Rs, _, _, h => h
  | i + 1, S :: Rs, U, hi, h => (Held.swap (Rs := Rs.eraseIdx i) h).cons (fun V hv => Held.back i (by simpa using hi) hv)
section
variable {lo : Nat} {w0 w w' : World} {Ps Rs : List Res} {R : Res}
theorem St.ungroup (h : St lo w0 w (groupR Ps :: Rs)) : St lo w0 w (Ps ++ Rs) := by
  obtain ⟨hb, h0, F, V, h1, h2, h3, h4⟩ := h
  exact ⟨hb, h0, h1.1.append h2 h3 h4⟩
theorem St.group (h : St lo w0 w (Ps ++ Rs)) : St lo w0 w (groupR Ps :: Rs) := by
  obtain ⟨hb, h0, hh⟩ := h
  obtain ⟨F, V, h1, h2, h3, h4⟩ := hh.parts
  exact ⟨hb, h0, fun k => F k ∧ k < w.heap.size, V, ⟨h1.lt, fun k hk => hk.2⟩, h2, fun k hk => h3 k hk.1, h4⟩
theorem St.back (i : Nat) (hi : i < Rs.length) (h : St lo w0 w (R :: Rs.eraseIdx i)) : St lo w0 w (Rs.set i R) := ⟨h.below, h.base, h.held.back i hi⟩
end

/-! ### a row of rows -/
abbrev Tab := List (Value × List Value)
def rowsR (e : TypeId) (size : Nat) (T : Tab) : List Res := T.map fun x => ownR e size x.1 (x.2.length / size) x.2
def tabR (te e : TypeId) (size : Nat) (v : Value) (T : Tab) : Res := groupR (ownR te 1 v T.length (T.map (·.1)) :: rowsR e size T)
section
variable {lo : Nat} {w0 w w' : World} {Rs : List Res} {te e : TypeId} {size n c g : Nat} {v v' : Value} {T : Tab} {A : Option Addr}
theorem rowsR_get (p : Nat) (hp : p < T.length) (h : p + 1 < (ownR te 1 v T.length (T.map (·.1)) :: rowsR e size T ++ Rs).length) : (ownR te 1 v T.length (T.map (·.1)) :: rowsR e size T ++ Rs)[p + 1] = ownR e size T[p].1 (T[p].2.length / size) T[p].2 := by
  simp [rowsR, hp, List.getElem_append_left]
theorem tab_cell (h : St lo w0 w (tabR te e size (.slice (some ⟨g, 0, none⟩) n c) T :: Rs)) (p : Nat) (hp : p < T.length) : w.cell? ⟨g, p, none⟩ = some T[p].1 := by
  have ho := (St.ungroup h).own
  have := ho.cells (g := g) rfl p T[p].1 (by simp [hp])
  rw [Addr.add_lit] at this
  simpa using this
theorem tab_outer (h : St lo w0 w (tabR te e size v T :: Rs)) : w.ownsRow 0 te 1 v T.length (T.map (·.1)) := (St.ungroup h).own
theorem tab_row (h : St lo w0 w (tabR te e size v T :: Rs)) (p : Nat) (hp : p < T.length) : w.ownsRow 0 e size T[p].1 (T[p].2.length / size) T[p].2 := by
  have h1 := (St.ungroup h).front (p + 1) (by simp [rowsR]; omega)
  rw [rowsR_get p hp] at h1
  exact h1.own
/-- the outer cell p is written, the new row in hand -/
theorem tab_put {xs : List Value} (h : St lo w0 w (ownR e size v' (xs.length / size) xs :: tabR te e size (.slice (some ⟨g, 0, none⟩) n c) T :: Rs)) (p : Nat) (hp : p < T.length) :
    St lo w0 (w.setCell ⟨g, p, none⟩ v') (tabR te e size (.slice (some ⟨g, 0, none⟩) n c) (T.set p (v', xs)) :: Rs) := by
  have h1 := (St.ungroup h.swap : St lo w0 w (ownR te 1 (.slice (some ⟨g, 0, none⟩) n c) T.length (T.map (·.1)) :: (rowsR e size T ++ ownR e size v' (xs.length / size) xs :: Rs)))
  obtain ⟨F, g1, g2, g3⟩ := h1.open
  have hgF : F g := g1.2.1 g rfl
  have hno : n = T.length := by
    rcases g1.1.2 with ⟨he, hz⟩ | ⟨g', cap, cur, he, _⟩
    · cases he
    · injection he
  subst hno
  have h2 := g3 (w' := w.setCell ⟨g, p, none⟩ v') (F' := F) (ownR te 1 (.slice (some ⟨g, 0, none⟩) T.length c) T.length ((T.map (·.1)).set p v')) ((mod_set w g p v').mono (fun i _ e => by subst e; exact hgF)) ⟨(g1.1.stored p v').1, g1.2.1, fun k hk => by simpa [World.setCell] using g1.2.2 k hk⟩ (fun k hk => .inl hk)
  have h3 : St lo w0 (w.setCell ⟨g, p, none⟩ v') (groupR (ownR te 1 (.slice (some ⟨g, 0, none⟩) T.length c) T.length ((T.map (·.1)).set p v') :: rowsR e size T) :: ownR e size v' (xs.length / size) xs :: Rs) := St.group h2
  have h4 := (St.ungroup h3.swap.swap)
  have h5 : St lo w0 (w.setCell ⟨g, p, none⟩ v') (ownR e size v' (xs.length / size) xs :: (ownR te 1 (.slice (some ⟨g, 0, none⟩) T.length c) T.length ((T.map (·.1)).set p v') :: rowsR e size T ++ Rs)) := by
    have hq := h3.swap
    have := hq.held.cons (Rs' := ownR te 1 (.slice (some ⟨g, 0, none⟩) T.length c) T.length ((T.map (·.1)).set p v') :: rowsR e size T ++ Rs) (fun V hv => by
      obtain ⟨F, W, a, b, c', d⟩ := hv
      exact a.1.append b c' d)
    exact ⟨hq.below, hq.base, this⟩
  obtain ⟨hb, h0, hh⟩ := h5
  have h6 : Held (w.setCell ⟨g, p, none⟩ v') ((ownR te 1 (.slice (some ⟨g, 0, none⟩) T.length c) T.length ((T.map (·.1)).set p v') :: rowsR e size T ++ Rs).set (p + 1) (ownR e size v' (xs.length / size) xs)) (fun k => lo ≤ k) := by
    refine Held.back (p + 1) (by simp [rowsR]; omega) ?_
    obtain ⟨F, V, a, b, c', d⟩ := hh
    refine ⟨F, V, a, ?_, c', d⟩
    exact (b.front (p + 1) (by simp [rowsR]; omega)).tail
  have h7 : (ownR te 1 (.slice (some ⟨g, 0, none⟩) T.length c) T.length ((T.map (·.1)).set p v') :: rowsR e size T ++ Rs).set (p + 1) (ownR e size v' (xs.length / size) xs) = ownR te 1 (.slice (some ⟨g, 0, none⟩) T.length c) (T.set p (v', xs)).length ((T.set p (v', xs)).map (·.1)) :: rowsR e size (T.set p (v', xs)) ++ Rs := by
    simp only [List.cons_append, List.set_cons_succ, List.length_set, List.map_set, rowsR]
    rw [List.set_append_left _ _ (by simpa using hp)]
  rw [h7] at h6
  exact St.group ⟨hb, h0, h6⟩
/-- row p has grown, and its cell is written -/
theorem tab_app {xs : List Value} (h : St lo w0 w (tabR te e size (.slice (some ⟨g, 0, none⟩) n c) T :: Rs)) (p : Nat) (hp : p < T.length) (ho : w'.ownsRow 0 e size v' (xs.length / size) xs) (hg : w.grownBy w' T[p].1.ownBlock) (hat : v'.ownBlock = T[p].1.ownBlock ∨ v'.ownBlock = some w.heap.size) :
    St lo w0 (w'.setCell ⟨g, p, none⟩ v') (tabR te e size (.slice (some ⟨g, 0, none⟩) n c) (T.set p (v', xs)) :: Rs) := by
  have h1 := (St.ungroup h).front (p + 1) (by simp [rowsR]; omega)
  rw [rowsR_get p hp] at h1
  have h2 := h1.shift ho hg hat
  have h3 := h2.back (p + 1) (by simp [rowsR]; omega)
  have h3' : St lo w0 w' (ownR te 1 (.slice (some ⟨g, 0, none⟩) n c) T.length (T.map (·.1)) :: (rowsR e size T ++ Rs).set p (ownR e size v' (xs.length / size) xs)) := h3
  obtain ⟨F, g1, g2, g3⟩ := h3'.open
  have hgF : F g := g1.2.1 g rfl
  have hno : n = T.length := by
    rcases g1.1.2 with ⟨he, hz⟩ | ⟨g', cap, cur, he, _⟩
    · cases he
    · injection he
  subst hno
  have h4 := g3 (w' := w'.setCell ⟨g, p, none⟩ v') (F' := F) (ownR te 1 (.slice (some ⟨g, 0, none⟩) T.length c) T.length ((T.map (·.1)).set p v')) ((mod_set w' g p v').mono (fun i _ e => by subst e; exact hgF)) ⟨(g1.1.stored p v').1, g1.2.1, fun k hk => by simpa [World.setCell] using g1.2.2 k hk⟩ (fun k hk => .inl hk)
  have h7 : ownR te 1 (.slice (some ⟨g, 0, none⟩) T.length c) T.length ((T.map (·.1)).set p v') :: (rowsR e size T ++ Rs).set p (ownR e size v' (xs.length / size) xs) = ownR te 1 (.slice (some ⟨g, 0, none⟩) T.length c) (T.set p (v', xs)).length ((T.set p (v', xs)).map (·.1)) :: rowsR e size (T.set p (v', xs)) ++ Rs := by
    simp only [List.cons_append, List.length_set, List.map_set, rowsR]
    rw [List.set_append_left _ _ (by simpa using hp)]
  rw [h7] at h4
  exact St.group h4
end
end Go.Proofs.Ytiklfjehhdbhfaa
