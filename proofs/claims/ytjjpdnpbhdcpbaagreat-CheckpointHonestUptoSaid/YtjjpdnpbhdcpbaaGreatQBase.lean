/-
  Words on memory that the proofs of this seat share: what a call may have turned (Mod), a slice that reads as a list of cells (Rd), an append of one element, bytes as a string. Conditions: none.
-/
import Derived.WalkKit
import Derived.WalkSpells
import Derived.WalkLawsBesides
import Derived.Lib.Hide
import Derived.RegionTactic
import Derived.Deep.Draws
import Derived.Deep.QuietTactic
import Derived.BigQuiet
import Derived.Deep.LoopGhost
import Derived.Deep.DeepFit
import Derived.Deep.DeepCutAuto
import Derived.Maps.AppendAt
import Derived.Deep.RegionHeld3
import Derived.Deep.MidRow
import Derived.Deep.AppendLies
import Derived.Test.YtjjpdnpbhdcpbaaGreatProg
namespace Go.Proofs.YtjjpdnpbhdcpbaaGreat
set_option linter.unusedVariables false
open Go.RowKit
theorem hide {p : Prop} (h : p) : Hid p := h
structure Mod (S : Nat → Prop) (w w' : World) : Prop where
 os : w'.os = w.os
 tape : w'.tape = w.tape
 output : w'.output = w.output
 size : w.heap.size ≤ w'.heap.size
 block : ∀ k, k < w.heap.size → ¬ S k → w'.heap[k]? = w.heap[k]?
theorem Mod.refl (S : Nat → Prop) (w : World) : Mod S w w := ⟨rfl, rfl, rfl, Nat.le_refl _, fun _ _ _ => rfl⟩
theorem Mod.trans {S : Nat → Prop} {a b c : World} (h : Mod S a b) (k : Mod S b c) : Mod S a c :=
 ⟨k.os.trans h.os, k.tape.trans h.tape, k.output.trans h.output, Nat.le_trans h.size k.size, fun i hi hs => (k.block i (Nat.lt_of_lt_of_le hi h.size) hs).trans (h.block i hi hs)⟩
theorem Mod.trans' {S T : Nat → Prop} {a b c : World} (h : Mod S a b) (k : Mod T b c) (hT : ∀ i, i < a.heap.size → T i → S i) : Mod S a c :=
 ⟨k.os.trans h.os, k.tape.trans h.tape, k.output.trans h.output, Nat.le_trans h.size k.size, fun i hi hs => (k.block i (Nat.lt_of_lt_of_le hi h.size) (fun ht => hs (hT i hi ht))).trans (h.block i hi hs)⟩
theorem Mod.mono {S T : Nat → Prop} {a b : World} (h : Mod S a b) (hT : ∀ i, i < a.heap.size → S i → T i) : Mod T a b :=
 ⟨h.os, h.tape, h.output, h.size, fun i hi ht => h.block i hi (fun hs => ht (hT i hi hs))⟩
theorem Mod.drew {S : Nat → Prop} {a w : World} (h : Mod S a w) : Mod S a w.drew := ⟨h.os, h.tape, h.output, h.size, h.block⟩
theorem Mod.drewN {S : Nat → Prop} {a w : World} (h : Mod S a w) (n : Nat) : Mod S a (w.drewN n) := ⟨h.os, h.tape, h.output, h.size, h.block⟩
theorem Mod.alloc {S : Nat → Prop} {a w : World} (h : Mod S a w) (o : Obj) : Mod S a (w.alloc o) :=
 ⟨h.os, h.tape, h.output, by have := h.size; simp; omega, fun k hk hs => (Below.heap_alloc w o k (by have := h.size; omega)).trans (h.block k hk hs)⟩
theorem Mod.setCell {S : Nat → Prop} {a w : World} (h : Mod S a w) {p : Addr} (hp : p.block < a.heap.size → S p.block) (u : Value) : Mod S a (w.setCell p u) :=
 ⟨h.os, h.tape, h.output, by have := h.size; simpa [World.setCell] using this, fun k hk hs => (Below.heap_setCell w p u k (fun e => hs (by subst e; exact hp hk))).trans (h.block k hk hs)⟩
theorem mod_set (w : World) (r i : Nat) (u : Value) : Mod (fun k => k = r) w (w.setCell ⟨r, i, none⟩ u) := Mod.setCell (S := fun k => k = r) (Mod.refl _ w) (fun _ => rfl) u
theorem mod_setN (w : World) (n r i : Nat) (u : Value) : Mod (fun k => k = r) w ((w.drewN n).setCell ⟨r, i, none⟩ u) := Mod.setCell (S := fun k => k = r) ((Mod.refl _ w).drewN n) (fun _ => rfl) u
theorem Mod.grown {S : Nat → Prop} {a w w' : World} {row : Option Nat} (h : Mod S a w) (hg : w.grownBy w' row) (hr : ∀ k, row = some k → k < a.heap.size → S k) : Mod S a w' :=
 ⟨hg.os.trans h.os, hg.tape.trans h.tape, hg.output.trans h.output, Nat.le_trans h.size hg.size, fun k hk hs => (hg.block k (by have := h.size; omega) (fun e => hs (hr k e.symm hk))).trans (h.block k hk hs)⟩
theorem Mod.of_below {w w' : World} (h : Below w.heap.size w w') (S : Nat → Prop) : Mod S w w' := ⟨h.os, h.tape, h.output, h.size, fun k hk _ => h.block k hk⟩
theorem Mod.below {S : Nat → Prop} {w w' : World} (h : Mod S w w') {B : Nat} (hB : B ≤ w.heap.size) (hS : ∀ i, i < B → ¬ S i) : Below B w w' :=
 ⟨h.os, h.tape, h.output, h.size, fun k hk => h.block k (by omega) (hS k hk)⟩
theorem Mod.cell {S : Nat → Prop} {w w' : World} (h : Mod S w w') {p : Addr} {v : Value} (hp : ¬ S p.block) (hc : w.cell? p = some v) : w'.cell? p = some v :=
 (World.cell?_of_block (h.block p.block (World.block_lt_of_cell? w p hc) hp)).trans hc
theorem Mod.frozen {S : Nat → Prop} {w w' : World} (h : Mod S w w') {p : Addr} (hlt : p.block < w.heap.size) (hp : ¬ S p.block) : w'.frozen? p = w.frozen? p :=
 World.frozen?_of_block (h.block p.block hlt hp)
theorem Mod.owns {S : Nat → Prop} {w w' : World} (h : Mod S w w') {base : Nat} {e : TypeId} {size : Nat} {v : Value} {n : Nat} {xs : List Value} (ho : w.ownsRow base e size v n xs)
 (hv : ∀ k, v.ownBlock = some k → ¬ S k) : w'.ownsRow base e size v n xs := by
 refine ⟨ho.1, ?_⟩
 have hlt := ho.lt
 rcases ho.2 with h2 | ⟨g, cap, cur, rfl, hg, hh, r⟩
 ·exact .inl h2
 ·exact .inr ⟨g, cap, cur, rfl, hg, (h.block g (hlt g rfl).2 (hv g rfl)).trans hh, r⟩
theorem owns_base {w : World} {base base' : Nat} {e : TypeId} {size : Nat} {v : Value} {n : Nat} {xs : List Value} (ho : w.ownsRow base e size v n xs) (hb : ∀ k, v.ownBlock = some k → base' ≤ k) : w.ownsRow base' e size v n xs := by
 refine ⟨ho.1, ?_⟩
 rcases ho.2 with h2 | ⟨g, cap, cur, rfl, hg, r⟩
 ·exact .inl h2
 ·exact .inr ⟨g, cap, cur, rfl, hb g rfl, r⟩
theorem below_cell {w w' : World} (h : Below w.heap.size w w') {p : Addr} {v : Value} (hc : w.cell? p = some v) : w'.cell? p = some v :=
 (h.cell (World.block_lt_of_cell? w p hc)).trans hc
def Blk (w : World) (g : Nat) (t : TypeId) (cs : Array Value) : Prop := w.heap[g]? = some (.cells cs t (0, 0))
section
variable {w w' : World} {g : Nat} {t : TypeId} {cs : Array Value}
theorem Blk.lt (h : Blk w g t cs) : g < w.heap.size := by
 rcases Nat.lt_or_ge g w.heap.size with hlt | hge
 ·exact hlt
 ·unfold Blk at h; rw [Array.getElem?_eq_none hge] at h; cases h
theorem Blk.cell (h : Blk w g t cs) (i : Nat) : w.cell? ⟨g, i, none⟩ = cs[i]? := cell_of_row w g i cs t (0, 0) h
theorem Blk.frozen (h : Blk w g t cs) (i : Nat) : w.frozen? ⟨g, i, none⟩ = false := by
 unfold Blk at h
 simp [World.frozen?, h]
theorem Blk.new (w : World) (t : TypeId) (cs : Array Value) : Blk (w.alloc (.cells cs t)) w.heap.size t cs := heap_alloc_new w _
theorem Blk.alloc (h : Blk w g t cs) (o : Obj) : Blk (w.alloc o) g t cs := (Below.heap_alloc w o g h.lt).trans h
theorem Blk.set_ (h : Blk w g t cs) (i : Nat) (u : Value) : Blk (w.setCell ⟨g, i, none⟩ u) g t (cs.setIfInBounds i u) := by
 unfold Blk at h ⊢
 simp [World.setCell, Array.getElem?_modify, h]
theorem Blk.far (h : Blk w g t cs) {p : Addr} (hp : g ≠ p.block) (u : Value) : Blk (w.setCell p u) g t cs := (Below.heap_setCell w p u g hp).trans h
theorem Blk.mod {S : Nat → Prop} (h : Blk w g t cs) (hm : Mod S w w') (hs : ¬ S g) : Blk w' g t cs := (hm.block g h.lt hs).trans h
theorem Blk.below (h : Blk w g t cs) (hb : Below w.heap.size w w') : Blk w' g t cs := (hb.block g h.lt).trans h
end
def Rd (w : World) (A : Option Addr) (xs : List Value) : Prop :=
 xs = [] ∨ ∃ b off, A = some ⟨b, off, none⟩ ∧ ∀ j (hj : j < xs.length), w.cell? ⟨b, off + j, none⟩ = some xs[j]
theorem Rd.nil (w : World) (A : Option Addr) : Rd w A [] := .inl rfl
theorem Rd.mod {S : Nat → Prop} {w w' : World} {A : Option Addr} {xs : List Value} (h : Rd w A xs) (hm : Mod S w w') (hs : ∀ p, A = some p → ¬ S p.block) : Rd w' A xs := by
 rcases h with h | ⟨b, off, hA, hc⟩
 ·exact .inl h
 ·exact .inr ⟨b, off, hA, fun j hj => hm.cell (hs ⟨b, off, none⟩ hA) (hc j hj)⟩
theorem Rd.below {w w' : World} {A : Option Addr} {xs : List Value} (h : Rd w A xs) (hb : Below w.heap.size w w') : Rd w' A xs := h.mod (Mod.of_below hb (fun _ => False)) (fun _ _ h => h)
theorem Rd.alloc {w : World} {A : Option Addr} {xs : List Value} (h : Rd w A xs) (o : Obj) : Rd (w.alloc o) A xs := h.below ((Below.refl _ w).alloc (Nat.le_refl _) o)
theorem Rd.lt {w : World} {A : Option Addr} {xs : List Value} (h : Rd w A xs) (hne : xs ≠ []) : ∃ p, A = some p ∧ p.block < w.heap.size := by
 rcases h with h | ⟨b, off, hA, hc⟩
 ·exact absurd h hne
 ·have hl : 0 < xs.length := by cases xs; exact absurd rfl hne; simp
  exact ⟨_, hA, World.block_lt_of_cell? w ⟨b, off, none⟩ (by simpa using hc 0 hl)⟩
theorem Rd.of_own {w : World} {base : Nat} {e : TypeId} {n c : Nat} {A : Option Addr} {xs : List Value} {size : Nat} (h : w.ownsRow base e size (.slice A n c) n xs) : Rd w A xs := by
 rcases h.2 with ⟨h2, h3⟩ | ⟨g, cap, cur, hv, _⟩
 ·exact .inl (List.eq_nil_of_length_eq_zero (by rw [h.1, h3]; omega))
 ·injection hv with hv
  subst hv
  refine .inr ⟨g, 0, rfl, fun j hj => ?_⟩
  have := h.cells (g := g) rfl j xs[j] (by simp)
  rw [Addr.add_lit] at this
  exact this
theorem own_form {w : World} {base : Nat} {e : TypeId} {size : Nat} {v : Value} {n : Nat} {xs : List Value} (h : w.ownsRow base e size v n xs) : ∃ A c, v = .slice A n c ∧ n ≤ c ∧ c ≤ maxLen := by
 rcases h.2 with ⟨rfl, rfl⟩ | ⟨g, cap, cur, rfl, _, _, h1, h2, _⟩
 ·exact ⟨none, 0, rfl, Nat.le_refl _, by simp [maxLen]⟩
 ·exact ⟨_, cap, rfl, h1, h2⟩
theorem one_new (w : World) (u : Value) (e : TypeId) : (w.alloc (.cells #[u] e)).cell? ⟨w.heap.size, 0, none⟩ = some u := by
 simp [World.cell?_alloc_mark w #[u] e (0, 0) 0]
theorem append1 {P : Program} (w : World) {ops : Array Oper} {rest : List Oper} {o : Oper} {a : Act} {Q : Exit → Act → World → Prop} (t e : TypeId) (z : Value) (bytes base : Nat)
 (ht : P.underlying t = some (.slice e)) (hi : (P.info? e).map (fun i => (i.zero, i.size, i.bytes)) = some (some z, 1, bytes)) (hzs : z.cells.size = 1)
 (hgd : o.guard = none) (s x : Operand) (ho : o.op = .call { callee := .builtin .append, args := #[s, x], argTypes := #[t, t] })
 (v : Value) (n : Nat) (xs : List Value) (u : Value) (g : Nat) (hown : w.ownsRow base e 1 v n xs) (hs : a.eval s = v) (hx : a.eval x = .slice (some ⟨g, 0, none⟩) 1 1)
 (hc : w.cell? ⟨g, 0, none⟩ = some u) (hu : u.oneCell' = true) (hn : (n + 1) * bytes ≤ 140737488355328) (hm : n + 1 ≤ maxLen) (hb : base ≤ w.heap.size)
 (h : ∀ v' w', w'.ownsRow base e 1 v' (n + 1) (xs ++ [u]) → w.grownBy w' v.ownBlock → wpList P ops Q rest (a.put o.dst v') w') : wpList P ops Q (o :: rest) a w := by
 obtain ⟨i, hi', h1, h2, h3⟩ := info_parts hi
 refine wpList_append_own w hgd s x t ho base e i z 1 bytes ht hi' h1 h2 h3 hzs (by decide) v n xs hs hown ⟨g, 0, none⟩ 1 1 [u] hx rfl ?_ ?_ hm hn hb (fun v' w' a b _ => h v' w' a b)
 ·intro j y hj
  match j, hj with
  | 0, hj => simp at hj; subst hj; simpa [Addr.add] using hc
 ·intro y hy; simp at hy; subst hy; exact hu
def vals (l : List UInt8) : List Value := l.map fun x => .int .u8 (x.toNat : Int)
theorem vals_length (l : List UInt8) : (vals l).length = l.length := by simp [vals]
theorem vals_append (a b : List UInt8) : vals (a ++ b) = vals a ++ vals b := by simp [vals]
def strs (l : List (List UInt8)) : List Value := l.map fun s => .string ⟨s.toArray⟩
theorem strs_length (l : List (List UInt8)) : (strs l).length = l.length := by simp [strs]
theorem strs_get (l : List (List UInt8)) (j : Nat) (h : j < (strs l).length) : (strs l)[j] = .string ⟨(l[j]'(by simpa [strs] using h)).toArray⟩ := by simp [strs]
theorem conv_own {P : Program} (src dst e : TypeId) (hs : P.underlying src = some (.slice e)) (he : P.underlying e = some (.int .u8)) (hd : P.underlying dst = some .string)
 (w : World) (base : Nat) (v : Value) (n : Nat) (l : List UInt8) (hown : w.ownsRow base e 1 v n (vals l)) :
 (convert src dst v).run P w = .ok (.string ⟨l.toArray⟩) w := by
 have hl : l.length = n := by simpa [vals] using hown.1
 rcases hown.2 with ⟨rfl, rfl⟩ | ⟨g, cap, cur, rfl, hb, hg, _, _, _, htake⟩
 ·have : l = [] := List.eq_nil_of_length_eq_zero hl
  subst this
  exact run_convert_bytes_nil w src e hs he 0 0 dst hd
 ·subst hl
  refine run_convert_bytes_back w src dst e ⟨g, 0, none⟩ cap l hs he hd fun j hj => ?_
  have := hown.cells (g := g) (by simp [Value.ownBlock]) j (.int .u8 (l[j].toNat : Int)) (by simp [vals, hj])
  exact this
theorem ret_eq {a b : Value} (h : a = b) : Ending.returned a = .returned b := by rw [h]
theorem str_eq {a b : List UInt8} (h : a = b) : Value.string ⟨a.toArray⟩ = .string ⟨b.toArray⟩ := by rw [h]
theorem bytes_append (a b : List UInt8) : (⟨a.toArray⟩ : ByteArray) ++ ⟨b.toArray⟩ = ⟨(a ++ b).toArray⟩ := by
 apply ByteArray.ext
 simp
theorem bytes_size (a : List UInt8) : (⟨a.toArray⟩ : ByteArray).size = a.length := by simp [ByteArray.size]
end Go.Proofs.YtjjpdnpbhdcpbaaGreat
namespace Go.Proofs.YtjjpdnpbhdcpbaaGreat
set_option linter.unusedVariables false
open Go.RowKit
structure Res where
 P : World → (Nat → Prop) → Prop
 lt : ∀ {w F}, P w F → ∀ k, F k → k < w.heap.size
 mod : ∀ {w w' F G}, P w F → Mod G w w' → (∀ k, F k → ¬ G k) → P w' F
def Held (w : World) : List Res → (Nat → Prop) → Prop
 | [], _ => True
 | R :: Rs, U => ∃ F V, R.P w F ∧ Held w Rs V ∧ (∀ k, F k → U k ∧ ¬ V k) ∧ ∀ k, V k → U k
theorem Held.mono {w : World} : ∀ {Rs : List Res} {U V : Nat → Prop}, Held w Rs U → (∀ k, U k → V k) → Held w Rs V
 | [], _, _, _, _ => trivial
 | R :: Rs, U, V, ⟨F, W, h1, h2, h3, h4⟩, h => ⟨F, W, h1, h2, fun k hk => ⟨h k (h3 k hk).1, (h3 k hk).2⟩, fun k hk => h k (h4 k hk)⟩
theorem Held.lt {w : World} : ∀ {Rs : List Res} {U : Nat → Prop}, Held w Rs U → Held w Rs (fun k => U k ∧ k < w.heap.size)
 | [], _, _ => trivial
 | R :: Rs, U, ⟨F, W, h1, h2, h3, h4⟩ => ⟨F, fun k => W k ∧ k < w.heap.size, h1, Held.lt h2, fun k hk => ⟨⟨(h3 k hk).1, R.lt h1 k hk⟩, fun hw => (h3 k hk).2 hw.1⟩, fun k hk => ⟨h4 k hk.1, hk.2⟩⟩
theorem Held.mod {w w' : World} {G : Nat → Prop} (hm : Mod G w w') : ∀ {Rs : List Res} {U : Nat → Prop}, Held w Rs U → (∀ k, U k → ¬ G k) → Held w' Rs U
 | [], _, _, _ => trivial
 | R :: Rs, U, ⟨F, W, h1, h2, h3, h4⟩, h => ⟨F, W, R.mod h1 hm (fun k hk => h k (h3 k hk).1), Held.mod hm h2 (fun k hk => h k (h4 k hk)), h3, h4⟩
theorem Held.swap {w : World} {R S : Res} {Rs : List Res} {U : Nat → Prop} (h : Held w (R :: S :: Rs) U) : Held w (S :: R :: Rs) U := by
 obtain ⟨F, V, h1, ⟨G, W, g1, g2, g3, g4⟩, h3, h4⟩ := h
 exact ⟨G, fun k => F k ∨ W k, g1, ⟨F, W, h1, g2, fun k hk => ⟨.inl hk, fun hw => (h3 k hk).2 (g4 k hw)⟩, fun k hk => .inr hk⟩,
  fun k hk => ⟨h4 k (g3 k hk).1, fun hf => by rcases hf with hf | hf; exact (h3 k hf).2 (g3 k hk).1; exact (g3 k hk).2 hf⟩,
  fun k hk => by rcases hk with hk | hk; exact (h3 k hk).1; exact h4 k (g4 k hk)⟩
theorem Held.tail {w : World} {R : Res} {Rs : List Res} {U : Nat → Prop} (h : Held w (R :: Rs) U) : Held w Rs U := by
 obtain ⟨F, V, h1, h2, h3, h4⟩ := h
 exact h2.mono h4
theorem Held.cons {w : World} {R : Res} {Rs Rs' : List Res} {U : Nat → Prop} (h : Held w (R :: Rs) U) (hr : ∀ V, Held w Rs V → Held w Rs' V) : Held w (R :: Rs') U := by
 obtain ⟨F, V, h1, h2, h3, h4⟩ := h
 exact ⟨F, V, h1, hr V h2, h3, h4⟩
theorem Held.front {w : World} : ∀ (i : Nat) {Rs : List Res} {U : Nat → Prop} (hi : i < Rs.length), Held w Rs U → Held w (Rs[i] :: Rs.eraseIdx i) U
 | 0, R :: Rs, _, _, h => h
 | i + 1, R :: Rs, U, hi, h => (h.cons (Rs' := Rs[i]'(by simpa using hi) :: Rs.eraseIdx i) (fun V hv => Held.front i (by simpa using hi) hv)).swap
def noR : Res where
 P _ _ := False
 lt h := h.elim
 mod h := h.elim
theorem Held.each {w : World} : ∀ {Rs : List Res} {U : Nat → Prop}, Held w Rs U → ∃ f : Nat → Nat → Prop, (∀ i, i < Rs.length → (Rs.getD i noR).P w (f i) ∧ ∀ k, f i k → U k) ∧ ∀ i j, i < Rs.length → j < Rs.length → i ≠ j → ∀ k, f i k → ¬ f j k
 | [], _, _ => ⟨fun _ _ => False, fun i hi => absurd hi (Nat.not_lt_zero _), fun i _ hi => absurd hi (Nat.not_lt_zero _)⟩
 | R :: Rs, U, ⟨F, V, h1, h2, h3, h4⟩ => by
   obtain ⟨f, f1, f2⟩ := Held.each h2
   refine ⟨fun i => match i with | 0 => F | i + 1 => f i, fun i hi => ?_, fun i j hi hj hne => ?_⟩
   ·cases i with
    | zero => exact ⟨h1, fun k hk => (h3 k hk).1⟩
    | succ i => exact ⟨(f1 i (by simpa using hi)).1, fun k hk => h4 k ((f1 i (by simpa using hi)).2 k hk)⟩
   ·cases i with
    | zero =>
      cases j with
      | zero => exact absurd rfl hne
      | succ j => exact fun k hk hg => (h3 k hk).2 ((f1 j (by simpa using hj)).2 k hg)
    | succ i =>
      cases j with
      | zero => exact fun k hk hg => (h3 k hg).2 ((f1 i (by simpa using hi)).2 k hk)
      | succ j => exact f2 i j (by simpa using hi) (by simpa using hj) (fun e => hne (by rw [e]))
theorem Held.of {w : World} : ∀ {Rs : List Res} {U : Nat → Prop} (f : Nat → Nat → Prop), (∀ i, i < Rs.length → (Rs.getD i noR).P w (f i) ∧ ∀ k, f i k → U k) → (∀ i j, i < Rs.length → j < Rs.length → i ≠ j → ∀ k, f i k → ¬ f j k) → Held w Rs U
 | [], _, _, _, _ => trivial
 | R :: Rs, U, f, f1, f2 => by
   refine ⟨f 0, fun k => ∃ i, i < Rs.length ∧ f (i + 1) k, (f1 0 (by simp)).1, Held.of (fun i => f (i + 1)) (fun i hi => ⟨(f1 (i + 1) (by simpa using hi)).1, fun k hk => ⟨i, hi, hk⟩⟩) (fun i j hi hj hne => f2 (i + 1) (j + 1) (by simpa using hi) (by simpa using hj) (by omega)), fun k hk => ⟨(f1 0 (by simp)).2 k hk, fun ⟨i, hi, hg⟩ => f2 0 (i + 1) (by simp) (by simpa using hi) (by omega) k hk hg⟩, fun k ⟨i, hi, hk⟩ => (f1 (i + 1) (by simpa using hi)).2 k hk⟩
theorem Held.pick {w : World} {Rs : List Res} {U : Nat → Prop} (h : Held w Rs U) (is : List Nat) (hn : is.Nodup) (hb : ∀ i ∈ is, i < Rs.length) : Held w (is.map (fun i => Rs.getD i noR)) U := by
 obtain ⟨f, f1, f2⟩ := h.each
 refine Held.of (fun j => f (is.getD j 0)) (fun j hj => ?_) (fun i j hi hj hne => ?_)
 ·have hj' : j < is.length := by simpa using hj
  have := f1 (is.getD j 0) (hb _ (by simp [hj']))
  simpa [hj', List.getD] using this
 ·have hi' : i < is.length := by simpa using hi
  have hj' : j < is.length := by simpa using hj
  refine f2 _ _ (hb _ (by simp [hi'])) (hb _ (by simp [hj'])) (fun e => hne ?_)
  simp [hi', hj'] at e
  exact (List.getElem_inj hn).1 e
structure St (lo : Nat) (w0 w : World) (Rs : List Res) : Prop where
 below : Below lo w0 w
 base : lo ≤ w0.heap.size
 held : Held w Rs (fun k => lo ≤ k)
section
variable {lo : Nat} {w0 w w' : World} {R S R' S' : Res} {Rs : List Res}
theorem St.nil (w : World) : St w.heap.size w w [] := ⟨Below.refl _ w, Nat.le_refl _, trivial⟩
theorem St.size (h : St lo w0 w Rs) : lo ≤ w.heap.size := Nat.le_trans h.base h.below.size
theorem St.front (i : Nat) (hi : i < Rs.length) (h : St lo w0 w Rs) : St lo w0 w (Rs[i] :: Rs.eraseIdx i) := ⟨h.below, h.base, h.held.front i hi⟩
theorem St.pick (is : List Nat) (hn : is.Nodup) (hb : ∀ i ∈ is, i < Rs.length) (h : St lo w0 w Rs) : St lo w0 w (is.map (fun i => Rs.getD i noR)) := ⟨h.below, h.base, h.held.pick is hn hb⟩
theorem St.swap (h : St lo w0 w (R :: S :: Rs)) : St lo w0 w (S :: R :: Rs) := ⟨h.below, h.base, h.held.swap⟩
theorem St.tail (h : St lo w0 w (R :: Rs)) : St lo w0 w Rs := ⟨h.below, h.base, h.held.tail⟩
theorem St.rot (h : St lo w0 w (R :: Rs)) : St lo w0 w (Rs ++ [R]) := by
 suffices H : ∀ (Rs : List Res) (U : Nat → Prop), Held w (R :: Rs) U → Held w (Rs ++ [R]) U from ⟨h.below, h.base, H _ _ h.held⟩
 intro Rs
 induction Rs with
 | nil => intro U h; exact h
 | cons S Rs ih => intro U h; exact h.swap.cons (fun V hv => ih V hv)
theorem St.open (h : St lo w0 w (R :: Rs)) : ∃ F, R.P w F ∧ (∀ k, F k → lo ≤ k) ∧
 ∀ {w' F'} (R' : Res), Mod F w w' → R'.P w' F' → (∀ k, F' k → F k ∨ w.heap.size ≤ k) → St lo w0 w' (R' :: Rs) := by
 obtain ⟨hb, h0, F, V, h1, h2, h3, h4⟩ := h
 have hs := Nat.le_trans h0 hb.size
 refine ⟨F, h1, fun k hk => (h3 k hk).1, fun {w' F'} R' hm hR hF => ⟨hb.trans (hm.below hs (fun i hi hf => by have := (h3 i hf).1; omega)), h0, F', fun k => V k ∧ k < w.heap.size, hR, (h2.lt).mod hm (fun k hk hf => (h3 k hf).2 hk.1), fun k hk => ?_, fun k hk => h4 k hk.1⟩⟩
 rcases hF k hk with e | e
 ·exact ⟨(h3 k e).1, fun hv => (h3 k e).2 hv.1⟩
 ·exact ⟨by omega, fun hv => by omega⟩
theorem St.open2 (h : St lo w0 w (R :: S :: Rs)) : ∃ F G, R.P w F ∧ S.P w G ∧ (∀ k, F k → lo ≤ k) ∧ (∀ k, G k → lo ≤ k) ∧ (∀ k, F k → ¬ G k) ∧
 ∀ {w' F' G'} (R' S' : Res), Mod (fun k => F k ∨ G k) w w' → R'.P w' F' → S'.P w' G' → (∀ k, F' k → F k ∨ w.heap.size ≤ k) → (∀ k, G' k → G k ∨ w.heap.size ≤ k) → (∀ k, F' k → ¬ G' k) → St lo w0 w' (R' :: S' :: Rs) := by
 obtain ⟨hb, h0, F, V, h1, ⟨G, W, g1, g2, g3, g4⟩, h3, h4⟩ := h
 have hs := Nat.le_trans h0 hb.size
 have hG : ∀ k, G k → lo ≤ k := fun k hk => h4 k (g3 k hk).1
 refine ⟨F, G, h1, g1, fun k hk => (h3 k hk).1, hG, fun k hf hg => (h3 k hf).2 (g3 k hg).1, fun {w' F' G'} R' S' hm hR hS hF hGG hd => ⟨hb.trans (hm.below hs (fun i hi hf => by rcases hf with hf | hf; have := (h3 i hf).1; omega; have := hG i hf; omega)), h0, F', fun k => G' k ∨ (W k ∧ k < w.heap.size), hR, ⟨G', fun k => W k ∧ k < w.heap.size, hS, (g2.lt).mod hm (fun k hk hf => by rcases hf with hf | hf; exact (h3 k hf).2 (g4 k hk.1); exact (g3 k hf).2 hk.1), fun k hk => ⟨.inl hk, fun hw => ?_⟩, fun k hk => .inr hk⟩, fun k hk => ⟨?_, fun hw => ?_⟩, fun k hk => ?_⟩⟩
 ·rcases hGG k hk with e | e
  ·exact (g3 k e).2 hw.1
  ·omega
 ·rcases hF k hk with e | e
  ·exact (h3 k e).1
  ·show lo ≤ k; omega
 ·rcases hw with hw | hw
  ·exact hd k hk hw
  ·rcases hF k hk with e | e
   ·exact (h3 k e).2 (g4 k hw.1)
   ·omega
 ·rcases hk with hk | hk
  ·rcases hGG k hk with e | e
   ·exact hG k e
   ·show lo ≤ k; omega
  ·exact h4 k (g4 k hk.1)
theorem St.split (h : St lo w0 w (R :: Rs)) : ∃ F, R.P w F ∧ (∀ k, F k → lo ≤ k) ∧
 ∀ {w' F' G'} (R' S' : Res), Mod F w w' → R'.P w' F' → S'.P w' G' → (∀ k, F' k → F k ∨ w.heap.size ≤ k) → (∀ k, G' k → F k ∨ w.heap.size ≤ k) → (∀ k, F' k → ¬ G' k) → St lo w0 w' (R' :: S' :: Rs) := by
 obtain ⟨hb, h0, F, V, h1, h2, h3, h4⟩ := h
 have hs := Nat.le_trans h0 hb.size
 refine ⟨F, h1, fun k hk => (h3 k hk).1, fun {w' F' G'} R' S' hm hR hS hF hG hd => ⟨hb.trans (hm.below hs (fun i hi hf => by have := (h3 i hf).1; omega)), h0, F', fun k => G' k ∨ (V k ∧ k < w.heap.size), hR, ⟨G', fun k => V k ∧ k < w.heap.size, hS, (h2.lt).mod hm (fun k hk hf => (h3 k hf).2 hk.1), fun k hk => ⟨.inl hk, fun hw => ?_⟩, fun k hk => .inr hk⟩, fun k hk => ⟨?_, fun hw => ?_⟩, fun k hk => ?_⟩⟩
 ·rcases hG k hk with e | e
  ·exact (h3 k e).2 hw.1
  ·omega
 ·rcases hF k hk with e | e
  ·exact (h3 k e).1
  ·show lo ≤ k; omega
 ·rcases hw with hw | hw
  ·exact hd k hk hw
  ·rcases hF k hk with e | e
   ·exact (h3 k e).2 hw.1
   ·omega
 ·rcases hk with hk | hk
  ·rcases hG k hk with e | e
   ·exact (h3 k e).1
   ·show lo ≤ k; omega
  ·exact h4 k hk.1
theorem St.under (h : St lo w0 w Rs) (hb : Below w.heap.size w w') : St lo w0 w' Rs :=
 ⟨h.below.trans (hb.mono h.size), h.base, (h.held.lt.mod (Mod.of_below hb (fun _ => False)) (fun _ _ h => h)).mono (fun k hk => hk.1)⟩
theorem St.drew (h : St lo w0 w Rs) : St lo w0 w.drew Rs := h.under (Below.refl _ w).drew
theorem St.drewN (h : St lo w0 w Rs) (n : Nat) : St lo w0 (w.drewN n) Rs := h.under (((Mod.refl (fun _ => False) w).drewN n).below (Nat.le_refl _) (fun _ _ h => h))
theorem St.new {F : Nat → Prop} (h : St lo w0 w Rs) (hb : Below w.heap.size w w') (hR : R.P w' F) (hF : ∀ k, F k → w.heap.size ≤ k) : St lo w0 w' (R :: Rs) := by
 have hs := h.size
 refine ⟨h.below.trans (hb.mono hs), h.base, F, fun k => lo ≤ k ∧ k < w.heap.size, hR, h.held.lt.mod (Mod.of_below hb (fun _ => False)) (fun _ _ h => h), fun k hk => ?_, fun k hk => hk.1⟩
 have := hF k hk
 exact ⟨by omega, fun hv => by omega⟩
end
def cellsR (g : Nat) (t : TypeId) (cs : Array Value) : Res where
 P w F := Blk w g t cs ∧ F = (fun k => k = g)
 lt h k hk := by obtain ⟨hb, rfl⟩ := h; subst hk; exact hb.lt
 mod h hm hG := by obtain ⟨hb, rfl⟩ := h; exact ⟨hb.mod hm (hG _ rfl), rfl⟩
def ownR (e : TypeId) (size : Nat) (v : Value) (n : Nat) (xs : List Value) : Res where
 P w F := w.ownsRow 0 e size v n xs ∧ (∀ k, v.ownBlock = some k → F k) ∧ ∀ k, F k → k < w.heap.size
 lt h := h.2.2
 mod h hm hG := ⟨hm.owns h.1 (fun k hk => hG k (h.2.1 k hk)), h.2.1, fun k hk => Nat.lt_of_lt_of_le (h.2.2 k hk) hm.size⟩
def rdR (A : Option Addr) (xs : List Value) : Res where
 P w F := Rd w A xs ∧ (xs ≠ [] → ∀ p, A = some p → F p.block) ∧ ∀ k, F k → k < w.heap.size
 lt h := h.2.2
 mod h hm hG := by
  refine ⟨?_, h.2.1, fun k hk => Nat.lt_of_lt_of_le (h.2.2 k hk) hm.size⟩
  by_cases hx : xs = []
  ·exact .inl hx
  ·exact h.1.mod hm (fun p hp => hG _ (h.2.1 hx p hp))
section
variable {lo : Nat} {w0 w w' : World} {Rs : List Res} {g : Nat} {t e : TypeId} {cs : Array Value} {v : Value} {n size : Nat} {xs : List Value} {A : Option Addr}
theorem St.blk (h : St lo w0 w (cellsR g t cs :: Rs)) : Blk w g t cs := by
 obtain ⟨_, _, F, V, h1, _⟩ := h
 exact h1.1
theorem St.own (h : St lo w0 w (ownR e size v n xs :: Rs)) : w.ownsRow 0 e size v n xs := by
 obtain ⟨_, _, F, V, h1, _⟩ := h
 exact h1.1
theorem St.rd (h : St lo w0 w (rdR A xs :: Rs)) : Rd w A xs := by
 obtain ⟨_, _, F, V, h1, _⟩ := h
 exact h1.1
theorem St.alloc (h : St lo w0 w Rs) (t : TypeId) (cs : Array Value) : St lo w0 (w.alloc (.cells cs t)) (cellsR w.heap.size t cs :: Rs) :=
 h.new ((Below.refl _ w).alloc (Nat.le_refl _) _) ⟨Blk.new w t cs, rfl⟩ (fun k hk => by subst hk; exact Nat.le_refl _)
theorem St.alloc0 (h : St lo w0 w Rs) (o : Obj) : St lo w0 (w.alloc o) Rs := h.under ((Below.refl _ w).alloc (Nat.le_refl _) _)
theorem St.set_ (h : St lo w0 w (cellsR g t cs :: Rs)) (i : Nat) (u : Value) : St lo w0 (w.setCell ⟨g, i, none⟩ u) (cellsR g t (cs.setIfInBounds i u) :: Rs) := by
 obtain ⟨F, h1, h2, h3⟩ := h.open
 obtain ⟨hb, rfl⟩ := h1
 exact h3 (F' := fun k => k = g) _ (mod_set w g i u) ⟨hb.set_ i u, rfl⟩ (fun k hk => .inl hk)
theorem St.new_own (h : St lo w0 w Rs) (hb : Below w.heap.size w w') (ho : w'.ownsRow w.heap.size e size v n xs) : St lo w0 w' (ownR e size v n xs :: Rs) :=
 h.new (F := fun k => v.ownBlock = some k) hb ⟨owns_base ho (fun _ _ => Nat.zero_le _), fun k hk => hk, fun k hk => (ho.lt k hk).2⟩ (fun k hk => (ho.lt k hk).1)
theorem St.shift {v' : Value} {n' : Nat} {xs' : List Value} (h : St lo w0 w (ownR e size v n xs :: Rs)) (ho : w'.ownsRow 0 e size v' n' xs') (hg : w.grownBy w' v.ownBlock) (hat : v'.ownBlock = v.ownBlock ∨ v'.ownBlock = some w.heap.size) :
 St lo w0 w' (ownR e size v' n' xs' :: Rs) := by
 obtain ⟨F, h1, h2, h3⟩ := h.open
 have hm : Mod F w w' := ⟨hg.os, hg.tape, hg.output, hg.size, fun k hk hn => hg.block k hk (fun e => hn (h1.2.1 k e.symm))⟩
 refine h3 (F' := fun k => v'.ownBlock = some k) (ownR e size v' n' xs') hm ⟨ho, fun k hk => hk, fun k hk => (ho.lt k hk).2⟩ (fun k hk => ?_)
 rcases hat with e | e
 ·left; rw [e] at hk; exact h1.2.1 k hk
 ·right; rw [e] at hk; injection hk with hk; omega
theorem appendM {P : Program} {ops : Array Oper} {rest : List Oper} {o : Oper} {a : Act} {Q : Exit → Act → World → Prop} (t : TypeId) {z : Value} {bytes : Nat}
 (h : St lo w0 w (ownR e size v n xs :: Rs)) (ht : P.underlying t = some (.slice e)) (hi : (P.info? e).map (fun i => (i.zero, i.size, i.bytes)) = some (some z, size, bytes)) (hzs : z.cells.size = size) (hsz : 0 < size)
 (hgd : o.guard = none) (s x : Operand) (ho : o.op = .call { callee := .builtin .append, args := #[s, x], argTypes := #[t, t] })
 (hs : a.eval s = v) (ad : Addr) (m c : Nat) (news : List Value) (hx : a.eval x = .slice (some ad) m c) (hl : news.length = m * size) (hnews : ∀ j u, news[j]? = some u → w.cell? (ad.add j) = some u) (h1 : ∀ u ∈ news, u.oneCell' = true)
 (h63 : n + m ≤ maxLen) (hbytes : (n + m) * bytes ≤ 140737488355328)
 (hk : ∀ v' w', St lo w0 w' (ownR e size v' (n + m) (xs ++ news) :: Rs) → wpList P ops Q rest (a.put o.dst v') w') : wpList P ops Q (o :: rest) a w := by
 obtain ⟨i, hi', i1, i2, i3⟩ := info_parts hi
 exact wpList_append_own_at w hgd s x t ho 0 e i z size bytes ht hi' i1 i2 i3 hzs hsz v n xs hs h.own ad m c news hx hl hnews h1 h63 hbytes (Nat.zero_le _) (fun v' w' r1 r2 _ r4 => hk v' w' (h.shift r1 r2 r4))
theorem appendO {P : Program} {ops : Array Oper} {rest : List Oper} {o : Oper} {a : Act} {Q : Exit → Act → World → Prop} (t : TypeId) {z : Value} {bytes : Nat} {w : World} {u : Value} {te : TypeId}
 (h : St lo w0 w (ownR e 1 v n xs :: Rs)) (ht : P.underlying t = some (.slice e)) (hi : (P.info? e).map (fun i => (i.zero, i.size, i.bytes)) = some (some z, 1, bytes)) (hzs : z.cells.size = 1)
 (hgd : o.guard = none) (s x : Operand) (ho : o.op = .call { callee := .builtin .append, args := #[s, x], argTypes := #[t, t] })
 (hs : a.eval s = v) (hx : a.eval x = .slice (some ⟨w.heap.size, 0, none⟩) 1 1) (hu : u.oneCell' = true) (h63 : n + 1 ≤ maxLen) (hbytes : (n + 1) * bytes ≤ 140737488355328)
 (hk : ∀ v' w', St lo w0 w' (ownR e 1 v' (n + 1) (xs ++ [u]) :: Rs) → wpList P ops Q rest (a.put o.dst v') w') : wpList P ops Q (o :: rest) a (w.alloc (.cells #[u] te)) := by
 refine appendM t (h.alloc0 _) ht hi hzs (by decide) hgd s x ho hs ⟨w.heap.size, 0, none⟩ 1 1 [u] hx rfl ?_ ?_ h63 hbytes hk
 ·intro j y hj
  match j, hj with
  | 0, hj => simp at hj; subst hj; simp [Addr.add]
 ·intro y hy; simp at hy; subst hy; exact hu
end
def groupR (Ps : List Res) : Res where
 P w F := Held w Ps F ∧ ∀ k, F k → k < w.heap.size
 lt h := h.2
 mod h hm hG := ⟨h.1.mod hm hG, fun k hk => Nat.lt_of_lt_of_le (h.2 k hk) hm.size⟩
theorem Held.append {w : World} : ∀ {Ps Rs : List Res} {F V U : Nat → Prop}, Held w Ps F → Held w Rs V → (∀ k, F k → U k ∧ ¬ V k) → (∀ k, V k → U k) → Held w (Ps ++ Rs) U
 | [], Rs, F, V, U, _, h2, _, h4 => h2.mono h4
 | P :: Ps, Rs, F, V, U, ⟨G, W, g1, g2, g3, g4⟩, h2, h3, h4 =>
   ⟨G, fun k => W k ∨ V k, g1, g2.append h2 (fun k hk => ⟨.inl hk, (h3 k (g4 k hk)).2⟩) (fun k hk => .inr hk), fun k hk => ⟨(h3 k (g3 k hk).1).1, fun hw => by rcases hw with hw | hw; exact (g3 k hk).2 hw; exact (h3 k (g3 k hk).1).2 hw⟩,
     fun k hk => by rcases hk with hk | hk; exact (h3 k (g4 k hk)).1; exact h4 k hk⟩
theorem Held.parts {w : World} : ∀ {Ps Rs : List Res} {U : Nat → Prop}, Held w (Ps ++ Rs) U → ∃ F V, Held w Ps F ∧ Held w Rs V ∧ (∀ k, F k → U k ∧ ¬ V k) ∧ ∀ k, V k → U k
 | [], Rs, U, h => ⟨fun _ => False, U, trivial, h, fun k hk => hk.elim, fun k hk => hk⟩
 | P :: Ps, Rs, U, ⟨G, W, g1, g2, g3, g4⟩ => by
   obtain ⟨F, V, h1, h2, h3, h4⟩ := Held.parts g2
   exact ⟨fun k => G k ∨ F k, V, ⟨G, F, g1, h1, fun k hk => ⟨.inl hk, fun hf => (g3 k hk).2 (h3 k hf).1⟩, fun k hk => .inr hk⟩, h2,
    fun k hk => by rcases hk with hk | hk; exact ⟨(g3 k hk).1, fun hv => (g3 k hk).2 (h4 k hv)⟩; exact ⟨g4 k (h3 k hk).1, (h3 k hk).2⟩, fun k hk => g4 k (h4 k hk)⟩
section
variable {lo : Nat} {w0 w w' : World} {Ps Rs : List Res} {R : Res}
theorem St.ungroup (h : St lo w0 w (groupR Ps :: Rs)) : St lo w0 w (Ps ++ Rs) := by
 obtain ⟨hb, h0, F, V, h1, h2, h3, h4⟩ := h
 exact ⟨hb, h0, h1.1.append h2 h3 h4⟩
theorem St.group (h : St lo w0 w (Ps ++ Rs)) : St lo w0 w (groupR Ps :: Rs) := by
 obtain ⟨hb, h0, hh⟩ := h
 obtain ⟨F, V, h1, h2, h3, h4⟩ := hh.parts
 exact ⟨hb, h0, fun k => F k ∧ k < w.heap.size, V, ⟨h1.lt, fun k hk => hk.2⟩, h2, fun k hk => h3 k hk.1, h4⟩
end
abbrev Tab := List (Value × List Value)
def rowsR (e : TypeId) (size : Nat) (T : Tab) : List Res := T.map fun x => ownR e size x.1 (x.2.length / size) x.2
end Go.Proofs.YtjjpdnpbhdcpbaaGreat
namespace Go.Proofs.YtjjpdnpbhdcpbaaGreat
set_option linter.unusedVariables false
theorem pu : (∀ (a : Act) (d : Tmp) (v : Value), a.put (some d) v = { a with tmps := a.tmps.setIfInBounds d v }) ∧ (∀ (a : Act) (v : Value), a.put none v = a) ∧ (∀ (l : List Value) (i : Nat) (v : Value), l.toArray.setIfInBounds i v = (l.set i v).toArray) ∧
 (∀ (l : List Value) (u v : Value), (u :: l).set 0 v = v :: l) ∧ (∀ (l : List Value) (n : Nat) (u v : Value), (u :: l).set (n + 1) v = u :: l.set n v) := ⟨fun _ _ _ => rfl, fun _ _ => rfl, fun _ _ _ => by simp, fun _ _ _ => rfl, fun _ _ _ _ => rfl⟩
theorem St.pk {lo : Nat} {w0 w : World} {Rs : List Res} (h : St lo w0 w Rs) (is : List Nat) (hn : is.Nodup := by decide) (hb : ∀ i ∈ is, i < Rs.length := by simp) : St lo w0 w (is.map (fun i => Rs.getD i noR)) := h.pick is hn hb
section
variable {P : Program} {ops : Array Oper} {Q : Exit → Act → World → Prop} {S : World → Prop} {fuel : Nat} {listed : Array Bool} {a : Act} {w : World} {v : Value} {f : Op} {t : TypeId} {s : String} {e : Array Edge} {g : Option (Nat × Bool)}
theorem tk {a' : Act} (i d : Nat) (hS : S w) (h : wpAnyH P .any ops Q S fuel (listed.setIfInBounds i true) a' w) (hi : ops[i]? = some ⟨some d, f, t, s, e, g⟩ := by rfl) (hs : Region.noSelect ops = true := by kernel_rfl) (hf : Region.free .any ops listed i = true := by kernel_rfl)
 (hr : (Region.ready .any ops listed).contains i = true := by kernel_rfl) (hQ : ∀ c a w, Q (.panic c) (a.put (some d) v) w → Q (.panic c) a w := by exact fun _ _ _ h => h)
 (hy : YieldsIf P ops S ⟨some d, f, t, s, e, g⟩ v a := by refine Or.inl ⟨by rfl, ?_⟩; intro w hSw; (try dsimp only at hSw); go_simp; all_goals with_reducible rfl) (ha : a.put (some d) v = a' := by conv => { lhs; simp only [pu] }; try with_reducible rfl) : wpAnyH P .any ops Q S (fuel + 1) listed a w :=
 wpAnyH_take hi hs hf hr hQ hy hS (ha ▸ h)
theorem tu {a' : Act} (i d : Nat) (hS : S w) (h : wpAnyH P .any ops Q S fuel (listed.setIfInBounds i true) a' w) (hi : ops[i]? = some ⟨some d, f, t, s, e, g⟩ := by rfl) (hs : Region.noSelect ops = true := by kernel_rfl) (hf : Region.free .any ops listed i = true := by kernel_rfl)
 (hr : (Region.ready .any ops listed).contains i = true := by kernel_rfl) (hQ : ∀ c a w, Q (.panic c) (a.put (some d) undef) w → Q (.panic c) a w := by exact fun _ _ _ h => h) (hy : YieldsIf P ops S ⟨some d, f, t, s, e, g⟩ undef a := by exact Or.inr ⟨by rfl, rfl⟩) (ha : a.put (some d) undef = a' := by conv => { lhs; simp only [pu] }; try with_reducible rfl) : wpAnyH P .any ops Q S (fuel + 1) listed a w :=
 wpAnyH_take hi hs hf hr hQ hy hS (ha ▸ h)
theorem an {i : Nat} (d : Nat) (h : ∀ K' : Act → World → Prop, Shut (∀ a w, S w → (S w → wpAnyH P .any ops Q S fuel (listed.setIfInBounds i true) a w) → K' a w) → if Region.wanted ⟨some d, f, t, s, e, g⟩ (yielded ops a.tmps) = true then Oper.wp P ⟨some d, f, t, s, e, g⟩ a w K' Q else K' (a.put (some d) undef) w)
 (hi : ops[i]? = some ⟨some d, f, t, s, e, g⟩ := by rfl) : AllReadyH P .any ops Q S fuel listed a w [i] := AllReadyH.cons hi h AllReadyH.nil
theorem az {i : Nat} (h : ∀ K' : Act → World → Prop, Shut (∀ a w, S w → (S w → wpAnyH P .any ops Q S fuel (listed.setIfInBounds i true) a w) → K' a w) → if Region.wanted ⟨none, f, t, s, e, g⟩ (yielded ops a.tmps) = true then Oper.wp P ⟨none, f, t, s, e, g⟩ a w K' Q else K' (a.put none undef) w)
 (hi : ops[i]? = some ⟨none, f, t, s, e, g⟩ := by rfl) : AllReadyH P .any ops Q S fuel listed a w [i] := AllReadyH.cons hi h AllReadyH.nil
theorem ad {i : Nat} {rs : List Nat} (d : Nat) (h : ∀ K' : Act → World → Prop, Shut (∀ a w, S w → (S w → wpAnyH P .any ops Q S fuel (listed.setIfInBounds i true) a w) → K' a w) → if Region.wanted ⟨some d, f, t, s, e, g⟩ (yielded ops a.tmps) = true then Oper.wp P ⟨some d, f, t, s, e, g⟩ a w K' Q else K' (a.put (some d) undef) w)
 (hn : AllReadyH P .any ops Q S fuel listed a w rs) (hi : ops[i]? = some ⟨some d, f, t, s, e, g⟩ := by rfl) : AllReadyH P .any ops Q S fuel listed a w (i :: rs) := AllReadyH.cons hi h hn
theorem dn (h : Q .normal a w) (fuel : Nat) (hr : Region.ready .any ops listed = [] := by kernel_rfl) : wpAnyH P .any ops Q S fuel listed a w := wpAnyH_done hr h fuel
theorem rdy (rs : List Nat) (h : AllReadyH P .any ops Q S fuel listed a w rs) (hr : Region.ready .any ops listed = rs := by kernel_rfl) (hne : rs ≠ [] := by simp) : wpAnyH P .any ops Q S (fuel + 1) listed a w := wpAnyH_ready hr hne h
end
end Go.Proofs.YtjjpdnpbhdcpbaaGreat
namespace Go.Proofs.YtjjpdnpbhdcpbaaGreat
set_option linter.unusedVariables false
open Go.RowKit
def setFrom (cs : Array Value) : Nat → List Value → Array Value
 | _, [] => cs
 | o, v :: r => setFrom (cs.setIfInBounds o v) (o + 1) r
theorem setFrom_get : ∀ (vs : List Value) (cs : Array Value) (o j : Nat), o + vs.length ≤ cs.size → (setFrom cs o vs)[j]? = if o ≤ j ∧ j < o + vs.length then vs[j - o]? else cs[j]?
 | [], cs, o, j, h => by rw [setFrom, if_neg (by simp)]
 | v :: r, cs, o, j, h => by
   have hl : (v :: r).length = r.length + 1 := rfl
   rw [hl] at h
   rw [setFrom, setFrom_get r (cs.setIfInBounds o v) (o + 1) j (by simp; omega)]
   by_cases h1 : o + 1 ≤ j ∧ j < o + 1 + r.length
   ·rw [if_pos h1, if_pos (by rw [hl]; omega), show j - o = (j - (o + 1)) + 1 by omega, List.getElem?_cons_succ]
   ·rw [if_neg h1]
    by_cases h2 : j = o
    ·subst h2
     rw [if_pos (by rw [hl]; omega), Nat.sub_self, List.getElem?_cons_zero]
     simp [Array.getElem?_setIfInBounds]
     omega
    ·rw [if_neg (by rw [hl]; omega)]
     simp [Ne.symm h2]
theorem setFrom_all (cs vs : Array Value) (h : vs.size = cs.size) : setFrom cs 0 vs.toList = vs := by
 apply Array.ext_getElem?
 intro j
 rw [setFrom_get _ _ _ _ (by simp [h])]
 by_cases hj : j < vs.size
 ·rw [if_pos (by simp; exact hj)]; simp
 ·rw [if_neg (by simp; omega), Array.getElem?_eq_none (by omega), Array.getElem?_eq_none (by omega)]
theorem setCells_blk {g : Nat} {t : TypeId} : ∀ (vs : List Value) {w : World} {cs : Array Value} (o : Nat), Blk w g t cs → Blk (w.setCells g o vs) g t (setFrom cs o vs)
 | [], _, _, _, h => h
 | v :: r, _, _, o, h => setCells_blk r (o + 1) (h.set_ o v)
theorem setCells_mod {g : Nat} : ∀ (vs : List Value) (w : World) (o : Nat), Mod (fun k => k = g) w (w.setCells g o vs)
 | [], w, _ => Mod.refl _ w
 | v :: r, w, o => (mod_set w g o v).trans (setCells_mod r _ (o + 1))
section
variable {P : Program} {ops : Array Oper} {rest : List Oper} {op : Oper} {a : Act} {w : World} {Q : Exit → Act → World → Prop} {lo : Nat} {w0 : World} {Rs : List Res} {g : Nat} {t : TypeId} {cs : Array Value}
theorem store_all (h : St lo w0 w (cellsR g t cs :: Rs)) (hgd : op.guard = none) (ty : TypeId) (x y : Operand) (ho : op.op = .store ty x y) (cells : Array Value) (hx : a.eval x = .pointer (some ⟨g, 0, none⟩)) (hy : a.eval y = .agg cells)
 (hsz : cells.size = cs.size) (hi : (P.info? ty).map (·.size) = some cells.size) (h1 : cells.all (·.oneCell') = true)
 (hk : ∀ w', St lo w0 w' (cellsR g t cells :: Rs) → wpList P ops Q rest (a.put op.dst undef) w') : wpList P ops Q (op :: rest) a w := by
 have hb := h.blk
 refine wpList_store_mid hgd ty x y ho g 0 cells hx hy (fun j hj => ⟨?_, hb.frozen _⟩) hi h1 (hk _ ?_)
 ·rw [hb.cell, Array.getElem?_eq_getElem (by omega)]; rfl
 ·obtain ⟨F, g1, g2, g3⟩ := h.open
  obtain ⟨_, rfl⟩ := g1
  have hb2 := setCells_blk cells.toList 0 hb
  rw [setFrom_all cs cells hsz] at hb2
  exact g3 (F' := fun k => k = g) (cellsR g t cells) (setCells_mod _ _ _) ⟨hb2, rfl⟩ (fun k hk => .inl hk)
theorem load_all (hb : Blk w g t cs) (hgd : op.guard = none) (ty : TypeId) (x : Operand) (ho : op.op = .load ty x) (hx : a.eval x = .pointer (some ⟨g, 0, none⟩)) (d : TypeDesc) (hu : P.underlying ty = some d) (hd : d.isRow = true)
 (hi : (P.info? ty).map (·.size) = some cs.size) (hk : wpList P ops Q rest (a.put op.dst (.agg cs)) w) : wpList P ops Q (op :: rest) a w := by
 refine wpList_load_mid hgd ty x ho g 0 hx cs.toList d (fun j v hv => ?_) hu hd (by simpa using hi) (by simpa using hk)
 rw [hb.cell, Nat.zero_add]
 simpa using hv
end
end Go.Proofs.YtjjpdnpbhdcpbaaGreat
namespace Go.Proofs.YtjjpdnpbhdcpbaaGreat
set_option linter.unusedVariables false
open Go.RowKit
section
variable {lo : Nat} {w0 w w' : World} {Rs : List Res} {e : TypeId} {v : Value} {n size : Nat} {xs : List Value}
theorem append_keep {P : Program} (w : World) (base : Nat) (t ty e : TypeId) (i : TypeInfo) (z : Value) (size bytes : Nat) (ht : P.underlying t = some (.slice e)) (hi : P.info? e = some i) (hz : i.zero = some z)
 (hsize : i.size = size) (hby : i.bytes = bytes) (g n cap : Nat) (xs : List Value) (hown : w.ownsRow base e size (.slice (some ⟨g, 0, none⟩) n cap) n xs)
 (a : Addr) (m c : Nat) (news : List Value) (hl : news.length = m * size) (hnews : ∀ j u, news[j]? = some u → w.cell? (a.add j) = some u) (h1 : ∀ u ∈ news, u.oneCell' = true)
 (h63 : n + m ≤ maxLen) (hbytes : (n + m) * bytes ≤ 140737488355328) (v' : Value) (w' : World) (hrun : (Builtin.append_ #[t, t] ty #[.slice (some ⟨g, 0, none⟩) n cap, .slice (some a) m c]).run P w = .ok v' w')
 (j : Nat) (u : Value) (hj : xs[j]? = some u) : w'.cell? ⟨g, j, none⟩ = some u := by
 subst hsize
 subst hby
 have h64 := h63
 unfold maxLen at h64
 rcases hown.2 with ⟨he, _⟩ | ⟨g', cap', cur, he, hb, hg, hnc, hcm, hcs, htake⟩
 ·cases he
 ·injection he with he1 he2 he3
  injection he1 with he1
  injection he1 with he1
  subst he1 he3
  by_cases hroom : n + m ≤ cap
  ·have hfit : n * i.size + news.length ≤ cur.size := by rw [hl, hcs, ← Nat.add_mul]; exact Nat.mul_le_mul_right _ hroom
   have hr := run_append_room (P := P) w t ty e i ht hi g n cap cur hg a m c news hl hnews h1 hroom hfit
   rw [hr] at hrun
   injection hrun with _ hw
   rw [← hw, cell_setRow_same w g j cur _ e _ hg, htake]
   have hjl : j < xs.length := (List.getElem?_eq_some_iff.1 hj).1
   rw [List.getElem?_toArray, List.append_assoc, List.getElem?_append_left hjl, hj]
  ·have holds : ∀ j u, xs[j]? = some u → w.cell? ((⟨g, 0, none⟩ : Addr).add j) = some u := hown.cells (g := g) rfl
   have hr := run_append_grow (P := P) w t ty e i z ht hi hz ⟨g, 0, none⟩ n cap xs hown.1 holds a m c news hl hnews (by omega) (by omega) (growslice_fits (by omega) hbytes)
   rw [hr] at hrun
   injection hrun with _ hw
   have := holds j u hj
   rw [Addr.add_lit, Nat.zero_add] at this
   rw [← hw]
   exact (World.cell?_of_block (Below.heap_alloc w.drew _ g (World.block_lt_of_cell? w _ this))).trans this
theorem appendS {P : Program} {w : World} {o : Oper} {a : Act} {K : Act → World → Prop} {Q : Exit → Act → World → Prop} (t : TypeId) {z : Value} {bytes : Nat}
 (h : St lo w0 w (ownR e size v n xs :: Rs)) (ht : P.underlying t = some (.slice e)) (hi : (P.info? e).map (fun i => (i.zero, i.size, i.bytes)) = some (some z, size, bytes)) (hzs : z.cells.size = size) (hsz : 0 < size)
 (s x : Operand) (ho : o.op = .call { callee := .builtin .append, args := #[s, x], argTypes := #[t, t] })
 (hs : a.eval s = v) (ad : Addr) (m c : Nat) (news : List Value) (hx : a.eval x = .slice (some ad) m c) (hl : news.length = m * size) (hnews : ∀ j u, news[j]? = some u → w.cell? (ad.add j) = some u) (h1 : ∀ u ∈ news, u.oneCell' = true)
 (hm : 0 < m) (h63 : n + m ≤ maxLen) (hbytes : (n + m) * bytes ≤ 140737488355328)
 (hk : ∀ g cap w', St lo w0 w' (ownR e size (.slice (some ⟨g, 0, none⟩) (n + m) cap) (n + m) (xs ++ news) :: Rs) → (∀ g0 c0, v = .slice (some ⟨g0, 0, none⟩) n c0 → ∀ j u, xs[j]? = some u → w'.cell? ⟨g0, j, none⟩ = some u) → w.grownBy w' v.ownBlock → K (a.put o.dst (.slice (some ⟨g, 0, none⟩) (n + m) cap)) w') :
 Oper.wp P o a w K Q := by
 obtain ⟨i, hi', i1, i2, i3⟩ := info_parts hi
 obtain ⟨g, cap, w', hr, h2, h3, h4, h5⟩ := run_append_lies (P := P) w t o.type 0 e i z size bytes ht hi' i1 i2 i3 hzs hsz v n xs h.own ad m c news hl hnews h1 hm h63 hbytes (Nat.zero_le _) w.heap.size rfl
 unfold Oper.wp execOp
 simp only [ho, resolve, invoke, builtin, Sem.run_bind, Sem.run_pure, Result.andThen_ok, List.map_toArray, List.map_cons, List.map_nil, hs, hx, hr]
 refine hk g cap w' (h.shift h2 h3 ?_) ?_ h3
 ·rcases h4 with r3 | r3
  ·left; rw [r3]; rfl
  ·right; subst r3; rfl
 ·intro g0 c0 hv j u hj
  subst hv
  exact append_keep w 0 t o.type e i z size bytes ht hi' i1 i2 i3 g0 n c0 xs h.own ad m c news hl hnews h1 h63 hbytes _ w' hr j u hj
theorem stepO {P : Program} {w : World} {ops : Array Oper} {o : Oper} {a : Act} {K : Act → World → Prop} {Q : Exit → Act → World → Prop} {E : Prop} (t : TypeId) {z : Value} {bytes : Nat} {u : Value} {te : TypeId}
 (h : St lo w0 w (ownR e 1 v n xs :: Rs)) (ht : P.underlying t = some (.slice e)) (hi : (P.info? e).map (fun i => (i.zero, i.size, i.bytes)) = some (some z, 1, bytes)) (hzs : z.cells.size = 1)
 (s x : Operand) (ho : o.op = .call { callee := .builtin .append, args := #[s, x], argTypes := #[t, t] }) (hgd : o.guard = none)
 (hs : a.eval s = v) (hx : a.eval x = .slice (some ⟨w.heap.size, 0, none⟩) 1 1) (hu : u.oneCell' = true) (h63 : n + 1 ≤ maxLen) (hbytes : (n + 1) * bytes ≤ 140737488355328)
 (hk : ∀ g cap w', St lo w0 w' (ownR e 1 (.slice (some ⟨g, 0, none⟩) (n + 1) cap) (n + 1) (xs ++ [u]) :: Rs) → (∀ g0 c0, v = .slice (some ⟨g0, 0, none⟩) n c0 → ∀ j u, xs[j]? = some u → w'.cell? ⟨g0, j, none⟩ = some u) → K (a.put o.dst (.slice (some ⟨g, 0, none⟩) (n + 1) cap)) w') :
 if Region.wanted o (yielded ops a.tmps) = true then Oper.wp P o a (w.alloc (.cells #[u] te)).drew K Q else E := by
 rw [if_pos (by unfold Region.wanted; rw [hgd])]
 refine appendS t (h.alloc0 _).drew ht hi hzs (by decide) s x ho hs ⟨w.heap.size, 0, none⟩ 1 1 [u] hx rfl ?_ ?_ (by decide) h63 hbytes (fun g cap w' r1 r2 _ => hk g cap w' r1 r2)
 ·intro j y hj
  match j, hj with
  | 0, hj => simp at hj; subst hj; exact (Blk.new w te #[_]).cell 0
 ·intro y hy; simp at hy; subst hy; exact hu
theorem stepN {P : Program} {w : World} {ops : Array Oper} {o : Oper} {a : Act} {K : Act → World → Prop} {Q : Exit → Act → World → Prop} {E : Prop} (t : TypeId) {z : Value} {bytes m : Nat} (us : Array Value) {te : TypeId}
 (h : St lo w0 w (ownR e 1 v n xs :: Rs)) (ht : P.underlying t = some (.slice e)) (hi : (P.info? e).map (fun i => (i.zero, i.size, i.bytes)) = some (some z, 1, bytes)) (hzs : z.cells.size = 1)
 (s x : Operand) (ho : o.op = .call { callee := .builtin .append, args := #[s, x], argTypes := #[t, t] }) (hgd : o.guard = none)
 (hs : a.eval s = v) (hx : a.eval x = .slice (some ⟨w.heap.size, 0, none⟩) m m) (hm : us.size = m) (hm0 : 0 < m) (hu : ∀ u ∈ us.toList, u.oneCell' = true) (h63 : n + m ≤ maxLen) (hbytes : (n + m) * bytes ≤ 140737488355328)
 (hk : ∀ g cap w', St lo w0 w' (ownR e 1 (.slice (some ⟨g, 0, none⟩) (n + m) cap) (n + m) (xs ++ us.toList) :: Rs) → (∀ g0 c0, v = .slice (some ⟨g0, 0, none⟩) n c0 → ∀ j u, xs[j]? = some u → w'.cell? ⟨g0, j, none⟩ = some u) → K (a.put o.dst (.slice (some ⟨g, 0, none⟩) (n + m) cap)) w') :
 if Region.wanted o (yielded ops a.tmps) = true then Oper.wp P o a (w.alloc (.cells us te)).drew K Q else E := by
 rw [if_pos (by unfold Region.wanted; rw [hgd])]
 refine appendS t (h.alloc0 _).drew ht hi hzs (by decide) s x ho hs ⟨w.heap.size, 0, none⟩ m m us.toList hx (by simpa using hm) ?_ hu hm0 h63 hbytes (fun g cap w' r1 r2 _ => hk g cap w' r1 r2)
 intro j y hj
 rw [Addr.add_lit, Nat.zero_add]
 refine ((Blk.new w te us).cell j).trans ?_
 simpa using hj
end
end Go.Proofs.YtjjpdnpbhdcpbaaGreat
namespace Go.Proofs.YtjjpdnpbhdcpbaaGreat
set_option linter.unusedVariables false
open Go.RowKit
theorem stepG {lo : Nat} {w0 w : World} {Rs : List Res} {e : TypeId} {v : Value} {n : Nat} {xs : List Value} {P : Program} {ops : Array Oper} {o : Oper} {a : Act} {K : Act → World → Prop} {Q : Exit → Act → World → Prop} {E : Prop} (t : TypeId) {z : Value} {bytes : Nat} {u : Value} (b : Nat)
 (h : St lo w0 w (ownR e 1 v n xs :: Rs)) (hc : w.cell? ⟨b, 0, none⟩ = some u) (ht : P.underlying t = some (.slice e)) (hi : (P.info? e).map (fun i => (i.zero, i.size, i.bytes)) = some (some z, 1, bytes)) (hzs : z.cells.size = 1)
 (s x : Operand) (ho : o.op = .call { callee := .builtin .append, args := #[s, x], argTypes := #[t, t] }) (hgd : o.guard = none)
 (hs : a.eval s = v) (hx : a.eval x = .slice (some ⟨b, 0, none⟩) 1 1) (hu : u.oneCell' = true) (h63 : n + 1 ≤ maxLen) (hbytes : (n + 1) * bytes ≤ 140737488355328)
 (hk : ∀ g cap w', St lo w0 w' (ownR e 1 (.slice (some ⟨g, 0, none⟩) (n + 1) cap) (n + 1) (xs ++ [u]) :: Rs) → K (a.put o.dst (.slice (some ⟨g, 0, none⟩) (n + 1) cap)) w') :
 if Region.wanted o (yielded ops a.tmps) = true then Oper.wp P o a w K Q else E := by
 rw [if_pos (by unfold Region.wanted; rw [hgd])]
 refine appendS t h ht hi hzs (by decide) s x ho hs ⟨b, 0, none⟩ 1 1 [u] hx rfl ?_ ?_ (by decide) h63 hbytes (fun g cap w' r1 _ _ => hk g cap w' r1)
 ·intro j y hj
  match j, hj with
  | 0, hj => simp at hj; subst hj; exact hc
 ·intro y hy; simp at hy; subst hy; exact hu
end Go.Proofs.YtjjpdnpbhdcpbaaGreat
namespace Go.Proofs.YtjjpdnpbhdcpbaaGreat
set_option linter.unusedVariables false
open Go.RowKit
theorem drewN_drewN (w : World) (a b : Nat) : (w.drewN a).drewN b = w.drewN (a + b) := by simp [World.drewN, Nat.add_assoc]
theorem bytes_cut (s : List UInt8) (a b : Nat) : (⟨s.toArray⟩ : ByteArray).extract a b = ⟨((s.drop a).take (b - a)).toArray⟩ := by
 apply ByteArray.ext
 simp [List.extract_eq_take_drop]
def weight (L : List (List UInt8)) : Nat := L.length + (L.map List.length).sum
theorem Rd.str {w : World} {A : Option Addr} {L : List (List UInt8)} (h : Rd w A (strs L)) {k : Nat} (hk : k < L.length) : ∃ b off, A = some ⟨b, off, none⟩ ∧ w.cell? ⟨b, off + k, none⟩ = some (.string ⟨L[k].toArray⟩) := by
 rcases h with h | ⟨b0, off, hA', hc⟩
 ·have := congrArg List.length h; rw [strs_length, List.length_nil] at this; omega
 ·exact ⟨b0, off, hA', by have := hc k (by simpa [strs] using hk); rwa [strs_get] at this⟩
end Go.Proofs.YtjjpdnpbhdcpbaaGreat
namespace Go.Proofs.YtjjpdnpbhdcpbaaGreat
set_option linter.unusedVariables false
open Go.RowKit
end Go.Proofs.YtjjpdnpbhdcpbaaGreat
namespace Go.Proofs.YtjjpdnpbhdcpbaaGreat
set_option linter.unusedVariables false
open Go.RowKit
end Go.Proofs.YtjjpdnpbhdcpbaaGreat
