/-
  A disk in memory: its five fields, the rows and the map behind them, and the blocks that it may turn. Conditions: none.
-/
import Derived.Test.YtepdfeegklinfaaDkMath
import Derived.Test.YtepdfeegklinfaaProg
namespace Go.Proofs.Ytepdfeegklinfaa
set_option linter.unusedVariables false
open Go.RowKit

def wrs (P : List Dk.Wr) : List Value := P.flatMap fun x => [.int .i64 x.1, .string ⟨x.2.toArray⟩]
def opc (o : Dk.Op) : List Value := [.int .i64 o.page, .string ⟨o.data.toArray⟩, .bool o.sync]
def ops (L : List Dk.Op) : List Value := L.flatMap opc
theorem flat_len {α β : Type} (f : α → List β) (n : Nat) (hf : ∀ a, (f a).length = n) (L : List α) : (L.flatMap f).length = L.length * n := by
  induction L with
  | nil => simp
  | cons a L ih => simp only [List.flatMap_cons, List.length_append, hf, ih, List.length_cons]; rw [Nat.add_mul]; omega
theorem flat_get {α β : Type} (f : α → List β) (n : Nat) (hf : ∀ a, (f a).length = n) : ∀ (L : List α) (k j : Nat) (hk : k < L.length), j < n → (L.flatMap f)[k * n + j]? = (f L[k])[j]? := by
  intro L
  induction L with
  | nil => intro k j hk; simp at hk
  | cons a L ih =>
    intro k j hk hj
    cases k with
    | zero => simp only [List.flatMap_cons, Nat.zero_mul, Nat.zero_add, List.getElem_cons_zero]; rw [List.getElem?_append_left (by rw [hf]; exact hj)]
    | succ k =>
      simp only [List.flatMap_cons, List.getElem_cons_succ]
      rw [List.getElem?_append_right (by rw [hf, Nat.add_mul]; omega), hf]
      rw [← ih k j (by simpa using hk) hj]
      congr 1
      rw [Nat.add_mul]; omega
/-- the k-th element of a row of structs, cell by cell -/
theorem rd_elem {α : Type} {w : World} {A : Option Addr} (f : α → List Value) (n : Nat) (hf : ∀ a, (f a).length = n) {L : List α} (h : Rd w A (L.flatMap f)) {k : Nat} (hk : k < L.length) (hn : 0 < n) :
    ∃ b off, A = some ⟨b, off, none⟩ ∧ b < w.heap.size ∧ ∀ j u, (f L[k])[j]? = some u → w.cell? ⟨b, off + k * n + j, none⟩ = some u := by
  have hl := flat_len f n hf L
  have hpos : k * n < (L.flatMap f).length := by rw [hl]; exact Nat.mul_lt_mul_of_lt_of_le hk (Nat.le_refl _) hn
  rcases h with h | ⟨b, off, hA, hc⟩
  · rw [h] at hpos; simp at hpos
  · refine ⟨b, off, hA, World.block_lt_of_cell? w ⟨b, off + k * n, none⟩ (hc _ hpos), fun j u hu => ?_⟩
    have hj : j < n := by have := (List.getElem?_eq_some_iff.1 hu).1; rw [hf] at this; exact this
    have hg := flat_get f n hf L k j hk hj
    rw [hu] at hg
    obtain ⟨hlt, he⟩ := List.getElem?_eq_some_iff.1 hg
    rw [Nat.add_assoc, hc _ hlt, he]

structure DkV (w : World) (F : Nat → Prop) (d m n : Nat) (v0 v1 v4 : Value) (D : DataW Unit) (S : Dk.Ds) : Prop where
  blk : Blk w d 73 #[v0, v1, .map (some m), .bool S.rc, v4]
  dur : w.ownsRow 0 9 1 v0 S.dur.length (strs S.dur)
  pen : w.ownsRow 0 79 2 v1 S.pend.length (wrs S.pend)
  map : w.ownsMap Try.prog 3 (plainElem Try.prog 3) m n D
  lat : Dk.LatOk D S.pend
  hn : n ≤ S.pend.length
  rcd : w.ownsRow 0 38 3 v4 S.recd.length (ops S.recd)
  fd : F d
  fm : F m
  f0 : ∀ k, v0.ownBlock = some k → F k
  f1 : ∀ k, v1.ownBlock = some k → F k
  f4 : ∀ k, v4.ownBlock = some k → F k
  fb : ∀ k, F k → k < w.heap.size
  ok : Dk.Ok S.dur S.pend
  small : S.dur.length ≤ 4096

/-- the disk at block d is S; its blocks lie in F -/
def Dsk (w : World) (F : Nat → Prop) (d : Nat) (S : Dk.Ds) : Prop := ∃ m n v0 v1 v4 D, DkV w F d m n v0 v1 v4 D S
/-- the blocks of F and those that were made from w to w' -/
def grow (F : Nat → Prop) (w w' : World) (k : Nat) : Prop := F k ∨ (w.heap.size ≤ k ∧ k < w'.heap.size)

theorem map_mod {G : Nat → Prop} {w w' : World} {H : Type} {P : Program} {k : TypeId} {R : Value → Option (DataW H × List MemPlace)} {b n : Nat} {D : DataW H} (h : w.ownsMap P k R b n D) (hm : Mod G w w') (hb : ¬ G b) : w'.ownsMap P k R b n D := by
  have hlt := h.lt
  obtain ⟨es, clock, h1, h2⟩ := h
  exact ⟨es, clock, (hm.block b hlt hb).trans h1, h2⟩
theorem DkV.mod {G F : Nat → Prop} {w w' : World} {d m n : Nat} {v0 v1 v4 : Value} {D : DataW Unit} {S : Dk.Ds} (h : DkV w F d m n v0 v1 v4 D S) (hm : Mod G w w') (hG : ∀ k, F k → ¬ G k) : DkV w' F d m n v0 v1 v4 D S :=
  { blk := h.blk.mod hm (hG _ h.fd), dur := hm.owns h.dur (fun k hk => hG k (h.f0 k hk)), pen := hm.owns h.pen (fun k hk => hG k (h.f1 k hk)), map := map_mod h.map hm (hG _ h.fm), lat := h.lat, hn := h.hn,
    rcd := hm.owns h.rcd (fun k hk => hG k (h.f4 k hk)), fd := h.fd, fm := h.fm, f0 := h.f0, f1 := h.f1, f4 := h.f4, fb := fun k hk => Nat.lt_of_lt_of_le (h.fb k hk) hm.size, ok := h.ok, small := h.small }
theorem DkV.wide {F F' : Nat → Prop} {w : World} {d m n : Nat} {v0 v1 v4 : Value} {D : DataW Unit} {S : Dk.Ds} (h : DkV w F d m n v0 v1 v4 D S) (hF : ∀ k, F k → F' k) (hb : ∀ k, F' k → k < w.heap.size) : DkV w F' d m n v0 v1 v4 D S :=
  { h with fd := hF _ h.fd, fm := hF _ h.fm, f0 := fun k hk => hF k (h.f0 k hk), f1 := fun k hk => hF k (h.f1 k hk), f4 := fun k hk => hF k (h.f4 k hk), fb := hb }
theorem Dsk.mod {G F : Nat → Prop} {w w' : World} {d : Nat} {S : Dk.Ds} (h : Dsk w F d S) (hm : Mod G w w') (hG : ∀ k, F k → ¬ G k) : Dsk w' F d S := by
  obtain ⟨m, n, v0, v1, v4, D, h⟩ := h
  exact ⟨m, n, v0, v1, v4, D, h.mod hm hG⟩
theorem Dsk.under {F : Nat → Prop} {w w' : World} {d : Nat} {S : Dk.Ds} (h : Dsk w F d S) (hb : Below w.heap.size w w') : Dsk w' F d S := h.mod (Mod.of_below hb (fun _ => False)) (fun _ _ h => h)
theorem Dsk.wide {F F' : Nat → Prop} {w : World} {d : Nat} {S : Dk.Ds} (h : Dsk w F d S) (hF : ∀ k, F k → F' k) (hb : ∀ k, F' k → k < w.heap.size) : Dsk w F' d S := by
  obtain ⟨m, n, v0, v1, v4, D, h⟩ := h
  exact ⟨m, n, v0, v1, v4, D, h.wide hF hb⟩
theorem Dsk.fb {F : Nat → Prop} {w : World} {d : Nat} {S : Dk.Ds} (h : Dsk w F d S) : ∀ k, F k → k < w.heap.size := by
  obtain ⟨m, n, v0, v1, v4, D, h⟩ := h
  exact h.fb
theorem Dsk.lt {F : Nat → Prop} {w : World} {d : Nat} {S : Dk.Ds} (h : Dsk w F d S) : d < w.heap.size := by
  obtain ⟨m, n, v0, v1, v4, D, h⟩ := h
  exact h.blk.lt

/-- what a call of a disk's method leaves -/
def DskP (F : Nat → Prop) (d : Nat) (S : Dk.Ds) (v : Value) (w : World) (e : Ending) (w' : World) : Prop := e = .returned v ∧ Dsk w' (grow F w w') d S ∧ Mod F w w'
/-- .. where nothing has turned -/
def DskQ (v : Value) (w : World) (e : Ending) (w' : World) : Prop := e = .returned v ∧ Below w.heap.size w w'

theorem DkV.ne1 {F : Nat → Prop} {w : World} {d m n : Nat} {v0 v1 v4 : Value} {D : DataW Unit} {S : Dk.Ds} (h : DkV w F d m n v0 v1 v4 D S) : d ≠ m ∧ v0.ownBlock ≠ some d ∧ v1.ownBlock ≠ some d ∧ v4.ownBlock ≠ some d := by
  have hb : w.heap[d]? = some (.cells #[v0, v1, .map (some m), .bool S.rc, v4] 73 (0, 0)) := h.blk
  have key : ∀ {v : Value} {e : TypeId} {size n : Nat} {xs : List Value}, w.ownsRow 0 e size v n xs → e ≠ 73 → v.ownBlock ≠ some d := by
    intro v e size n xs ho he
    rcases ho.2 with ⟨rfl, _⟩ | ⟨g, cap, cur, rfl, _, hg, _⟩
    · simp [Value.ownBlock]
    · intro hh
      simp [Value.ownBlock] at hh
      subst hh
      rw [hb] at hg
      simp at hg
      exact he hg.2.symm
  refine ⟨?_, key h.dur (by decide), key h.pen (by decide), key h.rcd (by decide)⟩
  rintro rfl
  obtain ⟨es, clock, h1, _⟩ := h.map
  rw [hb] at h1
  cases h1
theorem DkV.ne2 {F : Nat → Prop} {w : World} {d m n : Nat} {v0 v1 v4 : Value} {D : DataW Unit} {S : Dk.Ds} (h : DkV w F d m n v0 v1 v4 D S) : v0.ownBlock ≠ some m ∧ v1.ownBlock ≠ some m ∧ v4.ownBlock ≠ some m := by
  obtain ⟨es, clock, h1, _⟩ := h.map
  have key : ∀ {v : Value} {e : TypeId} {size n : Nat} {xs : List Value}, w.ownsRow 0 e size v n xs → v.ownBlock ≠ some m := by
    intro v e size n xs ho
    rcases ho.2 with ⟨rfl, _⟩ | ⟨g, cap, cur, rfl, _, hg, _⟩
    · simp [Value.ownBlock]
    · intro hh
      simp [Value.ownBlock] at hh
      subst hh
      rw [h1] at hg
      cases hg
  exact ⟨key h.dur, key h.pen, key h.rcd⟩
theorem own_ne {w : World} {b b' : Nat} {e e' : TypeId} {s s' n n' : Nat} {v v' : Value} {xs xs' : List Value} (h : w.ownsRow b e s v n xs) (h' : w.ownsRow b' e' s' v' n' xs') (he : e ≠ e') : v.ownBlock = none ∨ v.ownBlock ≠ v'.ownBlock := by
  rcases h.2 with ⟨rfl, _⟩ | ⟨g, cap, cur, rfl, _, hg, _⟩
  · exact .inl rfl
  · rcases h'.2 with ⟨rfl, _⟩ | ⟨g', cap', cur', rfl, _, hg', _⟩
    · exact .inr (by simp [Value.ownBlock])
    · refine .inr ?_
      intro hh
      simp [Value.ownBlock] at hh
      subst hh
      rw [hg] at hg'
      simp at hg'
      exact he hg'.2
end Go.Proofs.Ytepdfeegklinfaa
