/-
  In a round of a range over a function, inside the wide fence: a region that draws its order and only reads, and one that reads and ends in a forced tail, walked once, as outside of a round. Conditions: the region holds no defer.
-/
import Derived.Test.YtepdfeegklinfaaRangeB
import Derived.StillTail
import Derived.OrdersIn
import Derived.Deep.Quiet
namespace Go.Proofs.Ytepdfeegklinfaa
set_option linter.unusedVariables false
open Go.RowKit

theorem rowsWide {n l : Nat} {P : Program} {row : String} {args : Array Value} {w : World} {R : Value → World → Prop} (h : Rows P row args w R) : RowsIn (Fence.wide.inRound l) n P row args w R :=
  fun c cs _ => let ⟨v, w', r, s⟩ := h c cs; ⟨v, w', r, stepsIn_wide.2 s⟩
def noDefer (o : Oper) : Bool := match o.op with
  | .defer _ => false
  | _ => true
theorem noDefer_all {l : List Oper} (h : l.all noDefer = true) : ∀ o ∈ l, ∀ c, o.op ≠ .defer c := by
  intro o ho c e
  have := List.all_eq_true.1 h o ho
  unfold noDefer at this
  rw [e] at this
  cases this
theorem opIn {P : Program} {o : Oper} {a : Act} {w : World} {K : Act → World → Prop} {Q : Exit → Act → World → Prop} (l n : Nat) (hd : ∀ c, o.op ≠ .defer c) (hq : ¬ LetsOut Q) (h : o.wp P a w K Q) : o.wpIn (Fence.wide.inRound l) n P a w K Q := by
  refine ⟨fun _ _ => trivial, ?_⟩
  rw [Oper.semAt_eq _ _ _ hd]
  unfold Oper.wp at h
  generalize (execOp a.eval o).run P w = r at *
  cases r with
  | ok nx w' =>
    cases nx <;> first | exact h | exact h.elim | exact ⟨fun e => by simp [Fence.inRound, Fence.wide] at e, callsIn_wide.2 h⟩ | exact ⟨fun e => by simp [Fence.inRound, Fence.wide] at e, rowsWide h⟩
  | halt hh w' =>
    cases hh <;> first | exact h | exact h.elim

theorem anyIn {P : Program} {md : Region.Mode} {ops : Array Oper} {Q : Exit → Act → World → Prop} (l n : Nat) (hd : ∀ (i : Nat) o, ops[i]? = some o → ∀ c, o.op ≠ .defer c) (hq : ¬ LetsOut Q) :
    ∀ (fuel : Nat) (listed : Array Bool) (a : Act) (w : World), wpAny P md ops Q fuel listed a w → wpAnyIn (Fence.wide.inRound l) n P md ops Q fuel listed a w := by
  intro fuel
  induction fuel with
  | zero => intro listed a w h; simpa [wpAny, wpAnyIn] using h
  | succ fuel ih =>
    intro listed a w h
    refine ⟨h.1, fun i hi => ?_⟩
    have := h.2 i hi
    unfold wpOp at this
    unfold wpOpIn
    cases ho : ops[i]? with
    | none => rw [ho] at this; exact ih _ _ _ this
    | some o =>
      rw [ho] at this
      dsimp only at this ⊢
      by_cases hw : Region.wanted o (yielded ops a.tmps) = true
      · rw [if_pos hw] at this ⊢
        rcases this with h1 | h1
        · exact opIn l n (hd i o ho) hq (Oper.wp_mono (fun a w hh => ih _ a w hh) h1)
        · exact absurd h1.2 hq
      · rw [if_neg hw] at this ⊢
        exact ⟨fun _ _ => trivial, ih _ _ _ this⟩
theorem wpIn_round_quiet {P : Program} {id n r : Nat} {Q : Exit → Act → World → Prop} {a : Act} {w : World} {l : List Oper} (hm : P.follows .mixedOrders = true) (hd' : l.all noDefer = true) (hB : Region.lexB .any l.toArray = true)
    (h : wpQuiet P l.toArray (fun w' => ∃ n, w' = w.drewN n) (fun a' => ∀ w', (∃ n, w' = w.drewN n) → Q .normal a' w') l a) : (Code.region id l.toArray true).wpIn (Fence.wide.inRound r) n P Q a w := by
  have hd := noDefer_all hd'
  refine wpIn_mono (Q := fun e a' w' => e = .normal ∧ Q .normal a' w') ?_ (fun e a' w' hh => by obtain ⟨rfl, hh⟩ := hh; exact hh)
  simp only [Region.lexB, Bool.and_eq_true] at hB
  refine wpIn_region_any hm (anyIn r n ?_ ?_ _ _ _ _ (wpAny_of_quiet (C := fun w' => ∃ n, w' = w.drewN n) (Q := fun a' => ∀ w', (∃ n, w' = w.drewN n) → Q .normal a' w') (fun _ w' hw' h => ⟨rfl, h w' hw'⟩) _ _ _ _ ⟨1, rfl⟩ ?_))
  · intro i o ho
    exact hd o (by have := Array.mem_of_getElem? ho; simpa using this)
  · rintro ⟨a, w, h1, _⟩; cases h1
  · have := wpAnyQ_lex (C := fun w' => ∃ n, w' = w.drewN n) (md := .any) hB.1 l 0 (Array.replicate l.toArray.size false) a (by simp) (by simpa using hB.2) (by simpa using h)
    simpa using this
theorem wpIn_round_tail {P : Program} {id k r : Nat} {Q : Exit → Act → World → Prop} {a : Act} {w : World} {l : List Oper} (n : Nat) (hm : P.follows .mixedOrders = true) (hd' : l.all noDefer = true) (hB : Region.lexTailB .any l.toArray n = true)
    (h : wpStill P l.toArray { w with drawn := w.drawn + 1 } (fun a' => wpList P l.toArray (fun e a' w' => e = .normal ∧ Q .normal a' w') (l.drop n) a' { w with drawn := w.drawn + 1 }) (l.take n) a) : (Code.region id l.toArray true).wpIn (Fence.wide.inRound r) k P Q a w := by
  have hd := noDefer_all hd'
  refine wpIn_mono (Q := fun e a' w' => e = .normal ∧ Q .normal a' w') ?_ (fun e a' w' hh => by obtain ⟨rfl, hh⟩ := hh; exact hh)
  simp only [Region.lexTailB, Bool.and_eq_true, decide_eq_true_eq] at hB
  obtain ⟨⟨⟨⟨hsel, hn⟩, hs⟩, hc⟩, hlex⟩ := hB
  have hn' : n < l.length := by simpa using hn
  have htl : (l.take n).length = n := by simp; omega
  have hdl : (l.drop n).length = l.toArray.size - n := by simp
  have inv0 : HeadInv .any l.toArray n (Array.replicate l.toArray.size false) :=
    ⟨by simp, fun j oj _ hl => (by rw [getD_replicate_false] at hl; cases hl), fun t _ ht => getD_in (by simpa using ht) (getD_replicate_false _ _)⟩
  have H := wpAnyL_lex (md := .any) (g := l.toArray.size - n) hsel hs hc hn (l.take n) 0 _ a (fun j hj => by
    have hj' : j < n := by rw [htl] at hj; exact hj
    simp [hj']) (by simpa using htl) inv0 (by rw [htl]; exact hlex) h
  refine wpIn_region_any hm (anyIn r k ?_ ?_ _ _ _ _ ?_)
  · intro i o ho
    exact hd o (by have := Array.mem_of_getElem? ho; simpa using this)
  · rintro ⟨a, w, h1, _⟩; cases h1
  · have := wpAny_of_head (Q' := fun e a' w' => e = .normal ∧ Q .normal a' w') (g := l.toArray.size - n) (fun listed a' hL => by
      have := wpAny_of_seq (md := .any) (Q' := fun e a' w' => e = .normal ∧ Q .normal a' w') (l.drop n) n listed a' { w with drawn := w.drawn + 1 } (fun j => by simp [List.getElem?_drop]) (by rw [hdl]; exact hL.1) hL.2
      rwa [hdl] at this) _ _ _ H
    rw [htl, show n + (l.toArray.size - n) = l.toArray.size by omega] at this
    exact this
end Go.Proofs.Ytepdfeegklinfaa
