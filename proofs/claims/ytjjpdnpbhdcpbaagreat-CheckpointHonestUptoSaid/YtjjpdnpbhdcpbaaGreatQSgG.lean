/-
  What is held lies in blocks of cells that are no ints: it stays where other blocks are turned. A region that draws its order inside a round of a loop over a function. Conditions: none.
-/
import Derived.Test.YtjjpdnpbhdcpbaaGreatQSgF
import Derived.Test.YtjjpdnpbhdcpbaaGreatQPa
import Derived.OrdersIn
import Derived.RangeFuncFrom
namespace Go.Proofs.YtjjpdnpbhdcpbaaGreat
set_option linter.unusedVariables false
open Go.RowKit Go.Shelf
def NonInt (w : World) (k : Nat) : Prop := ∃ (cs : Array Value) (t : TypeId) (fz : Nat × Nat), w.heap[k]? = some (Obj.cells cs t fz) ∧ t ≠ 3
def Celled (R : Res) : Prop := ∀ w F, R.P w F → ∃ F' : Nat → Prop, R.P w F' ∧ ∀ k, F' k → F k ∧ NonInt w k
theorem celled_cells {g : Nat} {t : TypeId} {cs : Array Value} (ht : t ≠ 3) : Celled (cellsR g t cs) := fun w F h => by
 obtain ⟨hb, rfl⟩ := h
 exact ⟨_, ⟨hb, rfl⟩, fun k hk => ⟨hk, by subst hk; exact ⟨cs, t, (0, 0), hb, ht⟩⟩⟩
theorem celled_own {e : TypeId} {size : Nat} {v : Value} {n : Nat} {xs : List Value} (ht : e ≠ 3) : Celled (ownR e size v n xs) := fun w F h => by
 obtain ⟨h1, h2, h3⟩ := h
 refine ⟨fun k => v.ownBlock = some k, ⟨h1, fun k hk => hk, fun k hk => h3 k (h2 k hk)⟩, fun k hk => ⟨h2 k hk, ?_⟩⟩
 rcases h1.2 with ⟨rfl, _⟩ | ⟨g, cap, cur, rfl, _, hh, _⟩
 ·cases hk
 ·injection hk with hk
  subst hk
  exact ⟨cur, e, (0, 0), hh, ht⟩
theorem celled_bu {b : Nat} {l : List UInt8} : Celled (buR b l) := fun w F h => by
 obtain ⟨v, ⟨p, hp, hb, ho, hne⟩, h1, h2, h3⟩ := h
 refine ⟨fun k => k = b ∨ v.ownBlock = some k, ⟨v, ⟨p, hp, hb, ho, hne⟩, .inl rfl, fun k hk => .inr hk, fun k hk => ?_⟩, fun k hk => ?_⟩
 ·rcases hk with rfl | hk
  ·exact h3 _ h1
  ·exact h3 _ (h2 k hk)
 ·rcases hk with rfl | hk
  ·exact ⟨h1, _, _, _, hb, by decide⟩
  ·refine ⟨h2 k hk, ?_⟩
   rcases ho.2 with ⟨rfl, _⟩ | ⟨g, cap, cur, fz, rfl, _, hh, _⟩
   ·cases hk
   ·injection hk with hk
    subst hk
    exact ⟨cur, _, fz, hh, by decide⟩
theorem Held.tight {w : World} : ∀ {Rs : List Res} {U : Nat → Prop}, (∀ R ∈ Rs, Celled R) → Held w Rs U → Held w Rs (fun k => U k ∧ NonInt w k)
 | [], _, _, _ => trivial
 | R :: Rs, U, hc, ⟨F, V, h1, h2, h3, h4⟩ => by
   obtain ⟨F', g1, g2⟩ := hc R (List.mem_cons_self ..) w F h1
   exact ⟨F', fun k => V k ∧ NonInt w k, g1, Held.tight (fun R hR => hc R (List.mem_cons_of_mem _ hR)) h2, fun k hk => ⟨⟨(h3 k (g2 k hk).1).1, (g2 k hk).2⟩, fun hv => (h3 k (g2 k hk).1).2 hv.1⟩, fun k hk => ⟨h4 k hk.1, hk.2⟩⟩
section
variable {lo : Nat} {w0 w w' W : World} {Rs : List Res}
theorem St.far (h : St lo w0 w Rs) (hc : ∀ R ∈ Rs, Celled R) {G : Nat → Prop} (hm : Mod G w w') (hG : ∀ k, G k → lo ≤ k ∧ ¬ NonInt w k) : St lo w0 w' Rs :=
 ⟨h.below.trans (hm.below h.size (fun i hi hg => by have := (hG i hg).1; omega)), h.base, ((h.held.tight hc).mod hm (fun k hk hg => (hG k hg).2 hk.2)).mono (fun k hk => hk.1)⟩
theorem St.grown (h : St lo w0 w Rs) (hc : ∀ R ∈ Rs, Celled R) {row : Option Nat} (hg : w.grownBy w' row) (hr : ∀ r, row = some r → lo ≤ r ∧ ∃ o : Obj, w.heap[r]? = some o ∧ o.isCells = false) : St lo w0 w' Rs :=
 h.far hc (G := fun k => row = some k) ⟨hg.os, hg.tape, hg.output, hg.size, fun k hk hn => hg.block k hk (fun e => hn e.symm)⟩ (fun k hk => by
  obtain ⟨h1, o, h2, h3⟩ := hr k hk
  refine ⟨h1, fun ⟨cs, t, fz, h4, _⟩ => ?_⟩
  rw [h2] at h4
  injection h4 with h4
  subst h4
  simp [Obj.isCells] at h3)
def keepR (lo : Nat) (W : World) : Res where
 P w F := W.heap.size ≤ w.heap.size ∧ (∀ k, F k → k < w.heap.size ∧ w.heap[k]? = W.heap[k]?) ∧ ∀ k, lo ≤ k → k < W.heap.size → ¬ NonInt W k → F k
 lt h k hk := (h.2.1 k hk).1
 mod h hm hG := ⟨Nat.le_trans h.1 hm.size, fun k hk => ⟨Nat.lt_of_lt_of_le (h.2.1 k hk).1 hm.size, (hm.block k (h.2.1 k hk).1 (hG k hk)).trans (h.2.1 k hk).2⟩, h.2.2⟩
theorem St.keep (h : St lo w0 W Rs) (hc : ∀ R ∈ Rs, Celled R) : St lo w0 W (keepR lo W :: Rs) :=
 ⟨h.below, h.base, fun k => lo ≤ k ∧ k < W.heap.size ∧ ¬ NonInt W k, fun k => lo ≤ k ∧ NonInt W k, ⟨Nat.le_refl _, fun k hk => ⟨hk.2.1, rfl⟩, fun k h1 h2 h3 => ⟨h1, h2, h3⟩⟩, h.held.tight hc, fun k hk => ⟨hk.1, fun hv => hk.2.2 hv.2⟩, fun k hk => hk.1⟩
theorem St.kept (h0 : Below lo w0 W) (h : St lo w0 w' (keepR lo W :: Rs)) : KeepsOthers W w' ∧ KeepsInts W w' := by
 have hb := h.below
 have hbase := h.base
 obtain ⟨_, _, F, V, ⟨h1, h2, h3⟩, _⟩ := h
 have same : ∀ (k : Nat) (o : Obj), W.heap[k]? = some o → ¬ NonInt W k → w'.heap[k]? = some o := fun k o ho hn => by
  have hlt := (Array.getElem?_eq_some_iff.1 ho).1
  by_cases hk : k < lo
  ·rw [hb.block k hk, ← h0.block k hk]; exact ho
  ·exact ((h2 k (h3 k (by omega) hlt hn)).2).trans ho
 refine ⟨⟨h1, fun k o ho hi => same k o ho (fun ⟨cs, t, fz, h4, _⟩ => ?_)⟩, fun k cs fz hk => same k _ hk (fun ⟨cs', t, fz', h4, hne⟩ => ?_)⟩
 ·rw [ho] at h4
  injection h4 with h4
  subst h4
  simp [Obj.isCells] at hi
 ·rw [hk] at h4
  injection h4 with h4
  injection h4 with _ h5 _
  exact hne h5.symm
end
def OnlyN (Q : Exit → Act → World → Prop) : Exit → Act → World → Prop
 | .normal, a, w => Q .normal a w
 | _, _, _ => False
theorem OnlyN.normal {Q : Exit → Act → World → Prop} {a : Act} {w : World} (h : Q .normal a w) : OnlyN Q .normal a w := h
theorem OnlyN.imp {Q : Exit → Act → World → Prop} : ∀ (e : Exit) (a : Act) (w : World), OnlyN Q e a w → Q e a w := fun e a w h => by
 cases e <;> first | exact h | exact (h : False).elim
theorem OnlyN.lets {Q : Exit → Act → World → Prop} : ¬ LetsOut (OnlyN Q) := fun ⟨_, _, h⟩ => h
def noDefer (ops : Array Oper) : Bool := ops.all fun o => match o.op with | .defer _ => false | _ => true
section
variable {P : Program} {ops : Array Oper} {Q : Exit → Act → World → Prop} {l n : Nat}
theorem rowsIn_round {row : String} {args : Array Value} {w : World} {R : Value → World → Prop} (h : Rows P row args w R) : RowsIn (Fence.wide.inRound l) n P row args w R := fun c cs _ => by
 obtain ⟨v, w', r, s⟩ := h c cs
 exact ⟨v, w', r, stepsIn_wide.2 s⟩
theorem oper_round {o : Oper} (hd : ∀ c, o.op ≠ .defer c) {a : Act} {w : World} {K : Act → World → Prop} (hl : ¬ LetsOut Q) (h : o.wp P a w K Q) : o.wpIn (Fence.wide.inRound l) n P a w K Q := by
 unfold Oper.wp at h
 refine ⟨fun _ _ => trivial, ?_⟩
 rw [Oper.semAt_eq _ _ _ hd]
 generalize (execOp a.eval o).run P w = r at h ⊢
 cases r with
 | ok x w' =>
   cases x <;> simp only [Oper.upon, Oper.uponIn] at h ⊢
   case value v => exact h
   case skip => exact h
   case defer d => exact h
   case enter f args => exact ⟨fun hf => by simp [Fence.wide] at hf, CallsIn.inRound l (callsIn_wide.2 h)⟩
   case row row args => exact ⟨fun hf => by simp [Fence.wide] at hf, rowsIn_round h⟩
 | halt x w' => cases x <;> simp only [Oper.upon, Oper.uponIn] at h ⊢ <;> exact h
theorem noDefer_spec (h : noDefer ops = true) {i : Nat} {o : Oper} (ho : ops[i]? = some o) : ∀ c, o.op ≠ .defer c := fun c hc => by
 have := Array.all_eq_true_iff_forall_mem.1 h o (Array.mem_of_getElem? ho)
 rw [hc] at this
 simp at this
theorem any_round {md : Region.Mode} (hd : noDefer ops = true) (hl : ¬ LetsOut Q) : ∀ (fuel : Nat) (listed : Array Bool) (a : Act) (w : World), wpAny P md ops Q fuel listed a w → wpAnyIn (Fence.wide.inRound l) n P md ops Q fuel listed a w
 | 0, _, _, _, h => h
 | fuel + 1, listed, a, w, h => by
   refine ⟨h.1, fun i hi => ?_⟩
   have h2 := h.2 i hi
   unfold wpOp at h2
   unfold wpOpIn
   cases ho : ops[i]? with
   | none => rw [ho] at h2; exact any_round hd hl fuel _ _ _ h2
   | some o =>
     rw [ho] at h2
     simp only at h2 ⊢
     by_cases hw : Region.wanted o (yielded ops a.tmps) = true
     ·rw [if_pos hw] at h2 ⊢
      rcases h2 with h2 | ⟨_, h2⟩
      ·exact Oper.wpIn_mono (fun a w => any_round hd hl fuel _ a w) (oper_round (noDefer_spec hd ho) hl h2)
      ·exact absurd h2 hl
     ·rw [if_neg hw] at h2 ⊢
      exact ⟨fun _ _ => trivial, any_round hd hl fuel _ _ _ h2⟩
theorem wp_round_held {S : World → Prop} {id : Nat} {a : Act} {w : World} (hm : P.follows .mixedOrders = true) (hd : noDefer ops = true) (hS : S w.drew)
 (h : S w.drew → wpAnyH P .any ops (OnlyN Q) S ops.size (Array.replicate ops.size false) a w.drew) : (Code.region id ops true).wpIn (Fence.wide.inRound l) n P Q a w :=
 wpIn_mono (wpIn_region_any hm (any_round hd OnlyN.lets _ _ _ _ (wpAny_of_held _ _ _ _ (h hS)))) OnlyN.imp
end
def KeepN (R : World → Prop) : Exit → Act → World → Prop
 | .normal, _, W => R W
 | _, _, _ => False
theorem range_digits {msg : Sg.Str} {d : List Nat} (hd : Sg.dgs msg = d) {g : Nat} {w : World} (hg : w.cell? ⟨g, 0, none⟩ = some (.string ⟨msg.toArray⟩)) (hm : msg.length ≤ 1073741824) {lo : Nat} {w0 : World} {ι : Type} (Rs : List (Fin 67) → ι → List Res) (hRs : ∀ pre v, ∀ R ∈ Rs pre v, Celled R)
 {o : Operand} {p q s t : Tmp} {assign body : Code} {Q : Exit → Act → World → Prop} {tm : Array Value} (v0 : ι) (ho : ({ tmps := tm, defers := [] } : Act).eval o = .func (.func 147) #[] #[.pointer (some ⟨g, 0, none⟩)]) (h0 : St lo w0 w (Rs [] v0))
 (hassign : ∀ (l : Nat) (c : Fin 67) (W : World) (K : Act → World → Prop), K { tmps := (((tm.setIfInBounds p (.int .i64 (c.val : Int))).setIfInBounds q (.int .i64 ((d.getD c.val 0 : Nat) : Int))).setIfInBounds s (.int .i64 (c.val : Int))).setIfInBounds t (.int .i64 ((d.getD c.val 0 : Nat) : Int)), defers := [] } W →
   assign.wpIn (Fence.wide.inRound l) 3 Tryz.prog (Exit.then K (fun _ _ _ => False)) { tmps := (tm.setIfInBounds p (.int .i64 (c.val : Int))).setIfInBounds q (.int .i64 ((d.getD c.val 0 : Nat) : Int)), defers := [] } W)
 (hbody : ∀ (l : Nat) (pre : List (Fin 67)) (c : Fin 67) (v : ι) (W : World), pre.length < 67 → St lo w0 W (keepR lo W :: Rs pre v) →
   body.wpIn (Fence.wide.inRound l) 3 Tryz.prog (KeepN fun W' => ∃ v', St lo w0 W' (keepR lo W :: Rs (pre ++ [c]) v')) { tmps := (((tm.setIfInBounds p (.int .i64 (c.val : Int))).setIfInBounds q (.int .i64 ((d.getD c.val 0 : Nat) : Int))).setIfInBounds s (.int .i64 (c.val : Int))).setIfInBounds t (.int .i64 ((d.getD c.val 0 : Nat) : Int)), defers := [] } W)
 (hdone : ∀ (D : Nat) (v : ι) (W : World), w.heap.size ≤ D → St lo w0 W (Rs (dfin 67) v) → W.heap[D]? = some (.deferred (some [])) → Q .normal { tmps := tm, defers := [{ target := .collected D, args := #[] }] } W) :
 (Code.rangeFunc o #[p, q] assign body).wpIn Fence.wide 5 Tryz.prog Q { tmps := tm, defers := [] } w := by
 have hlo := h0.size
 have hs := digits_stops 4 (by decide) msg g w hg hm
 rw [hd] at hs
 refine wpIn_rangeFunc_ownF rfl (by decide) ho trivial (enters_of Tryz.func147 (by kernel_rfl) rfl) hs intsK_t intsK_b (Below.refl _ _) (fun _ => rfl)
  (fun pre W => ∃ v, St lo w0 W (Rs pre v)) (fun _ _ _ => False) (fun pre W W' row ⟨v, h⟩ hg hr => ⟨v, h.grown (hRs _ _) hg (fun r e => ⟨by have := (hr r e).1; omega, (hr r e).2⟩)⟩) (fun _ _ _ _ _ hs _ _ => hs) ⟨v0, h0⟩ (fun c => { tmps := (((tm.setIfInBounds p (.int .i64 (c.val : Int))).setIfInBounds q (.int .i64 ((d.getD c.val 0 : Nat) : Int))).setIfInBounds s (.int .i64 (c.val : Int))).setIfInBounds t (.int .i64 ((d.getD c.val 0 : Nat) : Int)), defers := [] })
  (fun l c W K hK => by have h := hassign l c W K hK; rw [show (#[p, q].zip (encP d c)).foldl (fun t (p, v) => t.setIfInBounds p v) tm = (tm.setIfInBounds p (.int .i64 (c.val : Int))).setIfInBounds q (.int .i64 ((d.getD c.val 0 : Nat) : Int)) by simp [encP]]; exact h) ?_ ?_ ?_
 ·rintro l pre c W ⟨v, h⟩ hlen
  refine wpIn_mono (hbody l pre c v W hlen (h.keep (hRs _ _))) ?_
  intro e a W' k
  cases e with
  | normal =>
    obtain ⟨v', h'⟩ := k
    obtain ⟨k1, k2⟩ := St.kept h.below h'
    exact ⟨k1, k2, v', h'.tail⟩
  | _ => exact (k : False).elim
 ·rintro D xs W hD rfl ⟨v, h⟩ hK
  exact hdone D v W hD h hK
 ·intro D c pre W _ _ h _
  exact h.elim
theorem keepsO_freeze (w : World) (g n : Nat) {cs : Array Value} {t : TypeId} {fz : Nat × Nat} (h : w.heap[g]? = some (.cells cs t fz)) : KeepsOthers w (w.freeze ⟨g, 0, none⟩ n) := by
 unfold World.freeze
 split
 ·exact KeepsOthers.refl w
 ·refine ⟨by simp, fun k o hk ho => ?_⟩
  by_cases e : k = g
  ·subst e
   rw [h] at hk
   injection hk with hk
   subst hk
   simp [Obj.isCells] at ho
  ·show (w.heap.modify g _)[k]? = _
   rw [Array.getElem?_modify, if_neg (fun e2 => e e2.symm)]
   exact hk
set_option maxHeartbeats 400000 in
set_option maxRecDepth 20000 in
theorem string_keeps (B b : Nat) (l : List UInt8) (w : World) (h : Bu B b l w) (hBw : B ≤ w.heap.size) :
 Calls Tryz.prog 114 #[.pointer (some ⟨b, 0, none⟩)] w fun e w' => e = .returned (.string ⟨l.toArray⟩) ∧ KeepsOthers w w' ∧ Below B w w' := by
 obtain ⟨p, hp, hA⟩ := h.parts
 have hA' := hA
 obtain ⟨hB, v, hbk, hown, hne⟩ := hA'
 rw [vals_length] at hown
 have hown2 := hown
 obtain ⟨hxl, hcase⟩ := hown2
 by_cases hl0 : l = []
 ·subst hl0
  have hUS : ∀ q W, (Builtin.unsafeString_ #[179, 3] 9 #[.pointer q, .int .i64 0]).run Tryz.prog W = .ok (.string ⟨#[]⟩) W := fun q W => Lib.run_unsafeString_none (P := Tryz.prog) W _ _ _ q
  have hlt : b < w.heap.size := hA.lt
  rcases hcase with ⟨rfl, _⟩ | ⟨g, cap, cur, fz, rfl, hbg, hg, hfz, hnc, hcm, hcs, htake⟩
  ·have c1 : w.drew.cell? ⟨b, 1, none⟩ = some (.slice none 0 0) := by
    have : w.drew.heap[b]? = some (.cells #[p, .slice none 0 0] 134 (0, 0)) := hbk
    rw [Lib.cell_of_heap this]; rfl
   have hSD : (Builtin.unsafeSliceData_ #[76] 179 #[.slice none 0 0]).run Tryz.prog w.drew = .ok (.pointer none) w.drew := rfl
   have HB := Lib.hid hbk; clear hbk
   have HH := Lib.hid h; clear h
   clear hown hA hxl
   go_enter Tryz.func114, Tryz.ntmps114
   go_wp2
   go_region
   all_goals (go_wp2; go_ret; exact ⟨rfl, KeepsOthers.drew w, Below.drew (Below.refl B w)⟩)
  ·by_cases hc0 : cap = 0
   ·subst hc0
    have c1 : w.drew.cell? ⟨b, 1, none⟩ = some (.slice (some ⟨g, 0, none⟩) 0 0) := by
     have : w.drew.heap[b]? = some (.cells #[p, .slice (some ⟨g, 0, none⟩) 0 0] 134 (0, 0)) := hbk
     rw [Lib.cell_of_heap this]; rfl
    have hSD : (Builtin.unsafeSliceData_ #[76] 179 #[.slice (some ⟨g, 0, none⟩) 0 0]).run Tryz.prog w.drew = .ok (.pointer (some ⟨w.drew.heap.size, 0, none⟩)) (w.drew.alloc (.view ⟨g, 0, none⟩ 5)) :=
     Lib.run_unsafeSliceData_zero w.drew _ _ 5 Tryz.underlying179 ⟨g, 0, none⟩ 0 (5, cur.size) (by have hg' : w.drew.heap[g]? = some (.cells cur 5 fz) := hg; simp [World.shape?, hg'])
    have c2 : (w.drew.alloc (.view ⟨g, 0, none⟩ 5)).cell? ⟨b, 1, none⟩ = some (.slice (some ⟨g, 0, none⟩) 0 0) := by
     have : (w.drew.alloc (.view ⟨g, 0, none⟩ 5)).heap[b]? = _ := (Lib.alloc_old w.drew _ b hlt).trans hbk
     rw [Lib.cell_of_heap this]; rfl
    have c3 : (w.alloc (.view ⟨g, 0, none⟩ 5)).drew.cell? ⟨b, 1, none⟩ = some (.slice (some ⟨g, 0, none⟩) 0 0) := c2
    have c0 : w.cell? ⟨b, 1, none⟩ = some (.slice (some ⟨g, 0, none⟩) 0 0) := c1
    have HB := Lib.hid hbk; clear hbk
    have HH := Lib.hid h; clear h
    clear hown hA hxl hg
    go_enter Tryz.func114, Tryz.ntmps114
    go_wp2
    go_region
    all_goals (go_wp2; go_ret; exact ⟨rfl, (KeepsOthers.drew w).trans (KeepsOthers.alloc _ _), (Below.drew (Below.refl B w)).alloc hBw _⟩)
   ·have c1 : w.drew.cell? ⟨b, 1, none⟩ = some (.slice (some ⟨g, 0, none⟩) 0 cap) := by
     have : w.drew.heap[b]? = some (.cells #[p, .slice (some ⟨g, 0, none⟩) 0 cap] 134 (0, 0)) := hbk
     rw [Lib.cell_of_heap this]; rfl
    have hSD : (Builtin.unsafeSliceData_ #[76] 179 #[.slice (some ⟨g, 0, none⟩) 0 cap]).run Tryz.prog w.drew = .ok (.pointer (some ⟨g, 0, none⟩)) w.drew :=
     Lib.run_unsafeSliceData_row _ _ _ _ _ _ hc0
    have HB := Lib.hid hbk; clear hbk
    have HH := Lib.hid h; clear h
    clear hown hA hxl hg hc0 htake hcs hfz
    go_enter Tryz.func114, Tryz.ntmps114
    go_wp2
    go_region
    all_goals (go_wp2; go_ret; exact ⟨rfl, KeepsOthers.drew w, Below.drew (Below.refl B w)⟩)
 ·have hlen : l.length ≠ 0 := by simpa using hl0
  obtain ⟨g, cap, cur, fz, rfl, hbg, hg, hfz, hnc, hcm, hcs, htake⟩ : ∃ g cap cur fz, v = .slice (some ⟨g, 0, none⟩) l.length cap ∧ B ≤ g ∧ w.heap[g]? = some (.cells cur 5 fz) ∧ fz.2 ≤ l.length * 1 ∧ l.length ≤ cap ∧ cap ≤ maxLen ∧ cur.size = cap * 1 ∧ cur.toList.take (l.length * 1) = vals l := by
   rcases hcase with ⟨_, hz⟩ | ⟨g, cap, cur, fz, hv, r⟩
   ·exact absurd hz hlen
   ·exact ⟨g, cap, cur, fz, hv, r⟩
  have c1 : w.drew.cell? ⟨b, 1, none⟩ = some (.slice (some ⟨g, 0, none⟩) l.length cap) := by
   have : w.drew.heap[b]? = some (.cells #[p, .slice (some ⟨g, 0, none⟩) l.length cap] 134 (0, 0)) := hbk
   rw [Lib.cell_of_heap this]; rfl
  have hSD : (Builtin.unsafeSliceData_ #[76] 179 #[.slice (some ⟨g, 0, none⟩) l.length cap]).run Tryz.prog w.drew = .ok (.pointer (some ⟨g, 0, none⟩)) w.drew :=
   Lib.run_unsafeSliceData_row _ _ _ _ _ _ (by omega)
  have hUS : (Builtin.unsafeString_ #[179, 3] 9 #[.pointer (some ⟨g, 0, none⟩), .int .i64 l.length]).run Tryz.prog w.drew = .ok (.string ⟨l.toArray⟩) (w.drew.freeze ⟨g, 0, none⟩ l.length) := by
   refine Lib.run_unsafeString_row w.drew 179 3 9 5 Tryz.underlying179 cells_byte g cur.size (by have hg' : w.drew.heap[g]? = some (.cells cur 5 fz) := hg; simp [World.shape?, hg']) l hl0 (by omega) (by unfold maxLen at hcm; omega) ?_
   intro j x hx
   have := hown.cells (g := g) rfl j (.int .u8 x.toNat) (by simp [vals, hx])
   exact this
  have HK := Lib.hid (keepsO_freeze w.drew g l.length hg)
  clear hown hA h hbk hg hfz hcm hcs htake hxl hl0 hne hcase hnc hlen
  go_enter Tryz.func114, Tryz.ntmps114
  go_wp2
  go_region
  all_goals (go_wp2; go_ret; exact ⟨rfl, (KeepsOthers.drew w).trans HK.out, Lib.below_freeze (Below.drew (Below.refl B w)) (p := ⟨g, 0, none⟩) hbg _⟩)
end Go.Proofs.YtjjpdnpbhdcpbaaGreat
