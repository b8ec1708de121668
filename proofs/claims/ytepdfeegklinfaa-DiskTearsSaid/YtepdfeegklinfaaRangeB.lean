/-
  A range over a function that yields a fixed sequence for ever, left by a break: the loop's law. The rounds are counted by a number; what the loop keeps is said of the blocks that were there when it began. Conditions: none.
-/
import Derived.Test.YtepdfeegklinfaaKit
import Derived.RangeFuncFrom
import Derived.RangeFuncWrites
import Derived.RangeFuncLeaves
import Derived.RangeFuncBound
import Derived.RangeFuncCalls
import Derived.Shelf.Abstract
namespace Go.Proofs.Ytepdfeegklinfaa
set_option linter.unusedVariables false
open Go.RowKit

/-- the function gf, handed yield, calls it with enc 0, enc 1, .. as long as the rounds say 'go on' (at most N do), and then returns; it reads the blocks R alone -/
def Endless (F : Fence) (n : Nat) (P : Program) (gf : Nat) (lb : Array Value) (enc : Nat → Value) (R : Nat → Prop) (N : Nat) (w : World) : Prop :=
  ∀ (l : Nat) (J Jx : Nat → World → Prop) (W : World), Below w.heap.size w W → (∀ k V, J k V → k ≤ N) →
    (∀ k V, J k V → YieldAt F (n - 1) P l #[enc k] V fun e V' => (e = .returned (.bool true) ∧ J (k + 1) V' ∧ ∀ b, R b → V'.heap[b]? = V.heap[b]?) ∨ (e = .returned (.bool false) ∧ Jx k V')) →
    J 0 W → CallsIn F n P gf (#[.func (.yield l) #[] #[]] ++ lb) W fun e W' => (∃ v, e = .returned v) ∧ ∃ k, Jx k W'
/-- how a round may be left -/
def postB (B : Nat) (R : Nat → Prop) (I Ix : Nat → World → Prop) (id k : Nat) (W : World) : Exit → Act → World → Prop
  | .normal, _, W' => KeepsFrom B W W' ∧ (∀ b, R b → W'.heap[b]? = W.heap[b]?) ∧ I (k + 1) W'
  | .exit j, _, W' => KeepsFrom B W W' ∧ j = id ∧ Ix k W'
  | _, _, _ => False
theorem below_put {B : Nat} {W : World} {l : Nat} (h : B ≤ l) (o : Obj) : Below B W (W.putObj l o) :=
  ⟨rfl, rfl, rfl, by simp, fun k hk => World.putObj_heap_other (by omega)⟩

theorem rangeB {F : Fence} {n : Nat} {P : Program} {g : Operand} {p : Tmp} {assign body : Code} {Q : Exit → Act → World → Prop} {a : Act} {w : World} {gf : Nat} {lb : Array Value}
    (hro : F.round = none) (h1 : 1 ≤ n) (hg : a.eval g = .func (.func gf) #[] lb) (hFg : F.fn gf) (eg : ∀ args w, (callFunc gf args).run P w = .ok (.enter gf args) w)
    (enc : Nat → Value) (R : Nat → Prop) (N : Nat) (hseq : Endless F (n - 1) P gf lb enc R N w) (hR : ∀ b, R b → b < w.heap.size)
    (I Ix : Nat → World → Prop) (hI : ∀ k W W', I k W → Below w.heap.size W W' → I k W') (hIx : ∀ k W W', Ix k W → Below w.heap.size W W' → Ix k W') (hN : ∀ k W, I k W → k ≤ N) (h0 : I 0 w) (a₁ : Nat → Act) (id : Nat)
    (hassign : ∀ (l k : Nat) (W : World) (K : Act → World → Prop), K (a₁ k) W → assign.wpIn (F.inRound l) (n - 1 - 1) P (Exit.then K (fun _ _ _ => False)) { tmps := (#[p].zip #[enc k]).foldl (fun t (p, v) => t.setIfInBounds p v) a.tmps, defers := [] } W)
    (hbody : ∀ (l k : Nat) (W : World), I k W → w.heap.size ≤ W.heap.size → body.wpIn (F.inRound l) (n - 1 - 1) P (postB w.heap.size R I Ix id k W) (a₁ k) W)
    (hstop : ∀ (D k : Nat) (W : World), w.heap.size ≤ D → Ix k W → W.heap[D]? = some (.deferred (some [])) → (Code.exit id).wpIn F n P Q { a with defers := { target := .collected D, args := #[] } :: a.defers } W) :
    (Code.rangeFunc g #[p] assign body).wpIn F n P Q a w := by
  refine wpIn_rangeFunc fun fn hfn => ?_
  rw [hro]
  let B := w.heap.size
  obtain ⟨lp, hlp⟩ : ∃ lp : LoopState → Option Code → Obj, lp = fun st pe => .loop { state := st, pending := pe, fn, tmps := a.tmps, params := #[p], assign, body, defers := B } := ⟨_, rfl⟩
  obtain ⟨W1, hW1⟩ : ∃ W1, (w.alloc (.deferred (some []))).alloc (lp .ready none) = W1 := ⟨_, rfl⟩
  have hL1 : W1.heap[B + 1]? = some (lp .ready none) := by
    rw [← hW1]
    have := World.alloc_heap_new (w.alloc (.deferred (some []))) (lp .ready none)
    rwa [World.size_alloc] at this
  have hK1 : W1.heap[B]? = some (.deferred (some [])) := by
    rw [← hW1]
    exact (Below.heap_alloc _ _ _ (by simp [B])).trans (World.alloc_heap_new w _)
  have hb1 : Below B w W1 := by
    rw [← hW1]
    exact ((Below.refl _ w).alloc (Nat.le_refl _) _).alloc (by rw [World.size_alloc]; show w.heap.size ≤ _; omega) _
  refine ⟨B + 1, [{ target := .collected B, args := #[] }], W1, { target := .fn (.func gf) lb, args := #[.func (.yield (B + 1)) #[] #[]] }, W1, gf, #[.func (.yield (B + 1)) #[] #[]] ++ lb, W1, ?_, ?_, ?_, ?_, fun _ => h1, ?_⟩
  · rw [← hW1, hlp]; exact run_enterLoop_outer _ _ _ _ _
  · simp only [resolve, hg]
    simp [go_sem]
  · intro f' hf'; simp [Target.leads] at hf'; subst hf'; exact hFg
  · simp [invoke, go_sem, eg]
  · refine (hseq (B + 1)
      (fun k W => I k W ∧ W.heap[B + 1]? = some (lp .ready none) ∧ W.heap[B]? = some (.deferred (some [])) ∧ B ≤ W.heap.size)
      (fun k W => Ix k W ∧ W.heap[B + 1]? = some (lp .done (some (.exit id))) ∧ W.heap[B]? = some (.deferred (some [])))
      W1 hb1 (fun k V h => hN k V h.1) ?_ ⟨hI _ _ _ h0 hb1, hL1, hK1, hb1.size⟩).mono ?_
    · rintro k V ⟨hi, hl, hk, hs⟩
      have hlt : B + 1 < V.heap.size := (Array.getElem?_eq_some_iff.1 hl).1
      have hl' := hl
      rw [hlp] at hl'
      have hy := run_yield (P := P) (args := #[enc k]) hl' rfl
      refine ⟨fn, _, assign, body, hy, roundIn_of_wpIn hfn ?_⟩
      obtain ⟨V2, hV2⟩ : ∃ V2, V.putObj (B + 1) (lp .busy none) = V2 := ⟨_, rfl⟩
      have hl2 : V2.heap[B + 1]? = some (lp .busy none) := by rw [← hV2]; exact World.putObj_heap_same hlt
      have hk2 : V2.heap[B]? = some (.deferred (some [])) := by rw [← hV2]; exact (World.putObj_heap_other (by omega)).trans hk
      have hbV : Below B V V2 := by rw [← hV2]; exact below_put (by omega) _
      refine hassign (B + 1) k V _ ?_
      refine ⟨V2, ?_, ?_⟩
      · have := run_beginRound (P := P) hl' rfl
        rw [← hV2, hlp]
        exact this
      · refine wpIn_mono (hbody (B + 1) k V2 (hI _ _ _ hi hbV) (Nat.le_trans hs hbV.size)) ?_
        rintro e a3 V3 hp
        have fin : ∀ jump : Option Code, KeepsFrom B V2 V3 → (Instr.endRound (B + 1) jump).run P V3 = .ok (.bool jump.isNone) (V3.putObj (B + 1) (lp (if jump.isNone then .ready else .done) jump)) ∧
            (V3.putObj (B + 1) (lp (if jump.isNone then .ready else .done) jump)).heap[B + 1]? = some (lp (if jump.isNone then .ready else .done) jump) ∧
            (V3.putObj (B + 1) (lp (if jump.isNone then .ready else .done) jump)).heap[B]? = some (.deferred (some [])) := by
          intro jump hkp
          have q := hkp.same _ _ (by omega) hl2 (by rw [hlp]; rfl)
          have q' := q
          rw [hlp] at q'
          refine ⟨?_, World.putObj_heap_same (Array.getElem?_eq_some_iff.1 q).1, (World.putObj_heap_other (by omega)).trans (hkp.same _ _ (Nat.le_refl _) hk2 rfl)⟩
          rw [hlp]
          exact run_endRound (P := P) jump q'
        cases e with
        | normal =>
          obtain ⟨hkp, hr, hi3⟩ := hp
          obtain ⟨f1, f2, f3⟩ := fin none hkp
          refine ⟨_, _, f1, .inl ⟨rfl, ⟨hI _ _ _ hi3 (below_put (by omega) _), f2, f3, ?_⟩, fun b hb => ?_⟩⟩
          · have := hkp.size; have := hbV.size; simp; omega
          · have hlt := hR b hb
            rw [World.putObj_heap_other (by omega), hr b hb, hbV.block b hlt]
        | exit j =>
          obtain ⟨hkp, rfl, hi3⟩ := hp
          obtain ⟨f1, f2, f3⟩ := fin (some (.exit j)) hkp
          exact ⟨_, _, f1, .inr ⟨rfl, hIx _ _ _ hi3 (below_put (by omega) _), f2, f3⟩⟩
        | ret => exact hp.elim
        | goto t => exact hp.elim
        | panic ch => exact hp.elim
        | outgrown => exact hp.elim
    · rintro e V ⟨⟨v, rfl⟩, k, hi, hl, hk⟩
      rw [hlp] at hl
      refine ⟨some (.exit id), _, run_endLoop (P := P) hl (by simp), ?_⟩
      exact hstop B k _ (Nat.le_refl _) (hIx _ _ _ hi (below_put (by omega) _)) ((World.putObj_heap_other (by omega)).trans hk)
end Go.Proofs.Ytepdfeegklinfaa
