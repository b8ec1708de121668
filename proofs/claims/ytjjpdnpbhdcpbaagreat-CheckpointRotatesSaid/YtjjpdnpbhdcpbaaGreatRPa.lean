/- Lemmas and contracts on what the walks need, several small texts in one. Conditions: as each theorem states. -/
import Derived.Test.YtjjpdnpbhdcpbaaGreatQPa
import Derived.Test.YtjjpdnpbhdcpbaaGreatQBase
import Derived.WalkKit
import Derived.WalkSpells
import Derived.WalkLawsBesides
import Derived.Lib.Hide
import Derived.RegionTactic
import Derived.Deep.Draws
import Derived.Deep.QuietTactic
import Derived.BigQuiet
import Derived.Deep.LoopGhost
import Derived.Deep.DeepFit
import Derived.Deep.DeepCutAuto
import Derived.Maps.AppendAt
import Derived.Deep.RegionHeld3
import Derived.Deep.MidRow
import Derived.Deep.AppendLies
import Derived.Test.YtjjpdnpbhdcpbaaGreatProg
import Derived.Test.YtjjpdnpbhdcpbaaGreatQMkB
import Derived.Test.YtjjpdnpbhdcpbaaGreatQMkA
import Derived.Test.YtjjpdnpbhdcpbaaGreatLayJ
import Derived.Test.YtjjpdnpbhdcpbaaGreatQShaA
import Derived.Laws.BitsAllLaws
import Derived.BigRegion
import Derived.Test.YtjjpdnpbhdcpbaaGreatLayC
import Derived.Test.YtjjpdnpbhdcpbaaGreatLay
import Derived.Test.YtjjpdnpbhdcpbaaGreatQShaB
import Derived.Laws.CopyRow
import Derived.Laws.IdiomStrings
import Derived.Lib.Bytealg
import Derived.Laws.MakeOwn
import Derived.Test.YtjjpdnpbhdcpbaaGreatLayL
import Derived.StillTailTactics
import Derived.Test.YtjjpdnpbhdcpbaaGreatRows
import Derived.ProofKit
import Derived.OpenShut
import Derived.JoinedCond
import Derived.ShutString
import Derived.ChangeOld
import Derived.Deep.Strs
import Derived.Deep.RegionLaw
import Derived.Test.YtjjpdnpbhdcpbaaGreatQPe
import Derived.Test.YtjjpdnpbhdcpbaaGreatQCkO
import Derived.Test.YtjjpdnpbhdcpbaaGreatQPd
import Derived.Test.YtjjpdnpbhdcpbaaGreatQCkL
import Derived.Test.YtjjpdnpbhdcpbaaGreatQCkK
import Derived.Test.YtjjpdnpbhdcpbaaGreatQCkJ
import Derived.Test.YtjjpdnpbhdcpbaaGreatQCkI
import Derived.Test.YtjjpdnpbhdcpbaaGreatQCkH
import Derived.Test.YtjjpdnpbhdcpbaaGreatQCkF
import Derived.Test.YtjjpdnpbhdcpbaaGreatQCkE
import Derived.Test.YtjjpdnpbhdcpbaaGreatQCkC
import Derived.Test.YtjjpdnpbhdcpbaaGreatQPc
import Derived.Test.YtjjpdnpbhdcpbaaGreatQPb
import Derived.Test.YtjjpdnpbhdcpbaaGreatQSgJ
import Derived.Test.YtjjpdnpbhdcpbaaGreatQSgI
import Derived.Test.YtjjpdnpbhdcpbaaGreatQSgH
import Derived.Test.YtjjpdnpbhdcpbaaGreatQSgG
import Derived.Test.YtjjpdnpbhdcpbaaGreatQSgF
import Derived.Test.YtjjpdnpbhdcpbaaGreatQCdA
import Derived.Lib.Builder
import Derived.Lib.UnsafeStr
import Derived.Lib.AppendStr
import Derived.Lib.FrozenHead
import Derived.Test.YtjjpdnpbhdcpbaaGreatLayR
import Derived.Lib.OthersKept
import Derived.Test.YtjjpdnpbhdcpbaaGreatQSgD
import Derived.RangeFuncNested
import Derived.RangeFuncBound
import Derived.RangeFuncCalls
import Derived.RangeFuncLeaves
import Derived.Shelf.Abstract
import Derived.Shelf.RegionOpen
import Derived.OwnWalkIn
import Derived.TacticsInMore
import Derived.LoopNIn
import Derived.LoopIn
import Derived.Lib.FrozenHead2
import Derived.OrdersIn
import Derived.RangeFuncFrom
import Derived.Laws.ResultCell
import Derived.Test.YtjjpdnpbhdcpbaaGreatQCdB
import Derived.Laws.DeepNot64
import Derived.Test.YtjjpdnpbhdcpbaaGreatQSgL
import Derived.Maps.OwnSet
namespace Go.Proofs.YtjjpdnpbhdcpbaaGreat
theorem bk4 {w : World} {g : Nat} {t : TypeId} {cs : Array Value} (h : Blk w g t cs) : w.cell? ⟨g, 0, none⟩ = cs[0]? ∧ w.frozen? ⟨g, 0, none⟩ = false ∧ w.cell? ⟨g, 1, none⟩ = cs[1]? ∧ w.frozen? ⟨g, 1, none⟩ = false ∧ w.cell? ⟨g, 2, none⟩ = cs[2]? ∧ w.frozen? ⟨g, 2, none⟩ = false ∧ w.cell? ⟨g, 3, none⟩ = cs[3]? ∧ w.frozen? ⟨g, 3, none⟩ = false := ⟨h.cell 0, h.frozen 0, h.cell 1, h.frozen 1, h.cell 2, h.frozen 2, h.cell 3, h.frozen 3⟩
end Go.Proofs.YtjjpdnpbhdcpbaaGreat
namespace Go.Proofs.YtjjpdnpbhdcpbaaGreat
set_option linter.unusedVariables false
open Go.RowKit
end Go.Proofs.YtjjpdnpbhdcpbaaGreat
namespace Go.Proofs.YtjjpdnpbhdcpbaaGreat
set_option linter.unusedVariables false
open Go.RowKit
end Go.Proofs.YtjjpdnpbhdcpbaaGreat
namespace Go.Proofs.YtjjpdnpbhdcpbaaGreat
set_option linter.unusedVariables false
open Go.RowKit
end Go.Proofs.YtjjpdnpbhdcpbaaGreat
namespace Go.Proofs.YtjjpdnpbhdcpbaaGreat
set_option linter.unusedVariables false
open Go.RowKit
end Go.Proofs.YtjjpdnpbhdcpbaaGreat
namespace Go.Proofs.YtjjpdnpbhdcpbaaGreat
set_option linter.unusedVariables false
open Go.RowKit
end Go.Proofs.YtjjpdnpbhdcpbaaGreat
namespace Go.Proofs.YtjjpdnpbhdcpbaaGreat
set_option linter.unusedVariables false
open Go.RowKit
end Go.Proofs.YtjjpdnpbhdcpbaaGreat
namespace Go.Proofs.YtjjpdnpbhdcpbaaGreat
set_option linter.unusedVariables false
open Go.RowKit
end Go.Proofs.YtjjpdnpbhdcpbaaGreat
namespace Go.Proofs.YtjjpdnpbhdcpbaaGreat
set_option linter.unusedVariables false
open Go.RowKit
end Go.Proofs.YtjjpdnpbhdcpbaaGreat
namespace Go.Proofs.YtjjpdnpbhdcpbaaGreat
set_option linter.unusedVariables false
open Go.RowKit
theorem tmod_nat (a n : Nat) : (a : Int).tmod (n : Int) = ((a % n : Nat) : Int) := by rw [Int.tmod_eq_emod_of_nonneg (by omega)]; rfl
end Go.Proofs.YtjjpdnpbhdcpbaaGreat
namespace Go.Proofs.YtjjpdnpbhdcpbaaGreat
set_option linter.unusedVariables false
open Go.ChangeShapes hiding strs
open Go.WideShapes Go.ChangeAt Go.RowKit
theorem own_knob : ownKnob Tryz.prog.godebug = none := by kernel_rfl
theorem laid_out : laidOutB Tryz.prog = true := by kernel_rfl
theorem below_trodAll {H : Type} {enc : TypeId × Value → H} {P : Program} (hl : laidOutB P = true) {W W' : World} (hb : Below W.heap.size W W') :
 ∀ {ts : List TypeId} {vs : List Value} {ds : List (DataW H)} {ps : List MemPlace}, (∀ t ∈ ts, P.readableRec t = true ∧ t < P.types.size) →
   DataW.TrodAll enc P W 0 (fun _ => true) true ts vs ds ps → DataW.TrodAll enc P W' 0 (fun b => decide (b < W.heap.size)) true ts vs ds ps
 | [], [], [], _, _, h => h
 | [], [], _ :: _, _, _, h => h.elim
 | [], _ :: _, _, _, _, h => h.elim
 | _ :: _, [], _, _, _, h => h.elim
 | _ :: _, _ :: _, [], _, _, h => h.elim
 | t :: ts, v :: vs, d :: ds, ps, hr, h => by
   obtain ⟨p, q, h1, h2, rfl⟩ := h
   have hlt : ∀ x ∈ p, x.block < W.heap.size := by obtain ⟨m, hm⟩ := h1; exact DataW.trod_lt m _ _ _ hm
   exact ⟨p, q, Below.trod hl (hr t (by simp)).1 (hr t (by simp)).2 h1 hb hlt, below_trodAll hl hb (fun t' ht' => hr t' (by simp [ht'])) h2, rfl⟩
theorem law_post {H : Type} {enc : TypeId × Value → H} {P : Program} {f : Func} {s : ChangeSpec} {W W' : World} {args : Array Value} {ds gs : List (DataW H)} {before : List MemPlace} {tb : TypeId}
 (hl : laidOutB P = true) (hr' : (f.params.toList.all fun t => P.readableRec t && decide (t < P.types.size)) = true) (hrt : f.resultTypes = #[tb]) (htb : P.underlying tb = some .bool)
 (hv : s.vars = []) (hW : DataW.Whole enc P f.params.toList s.vars false W args.toList ds gs before)
 (h1 : (s.fn H (ds ++ gs)).results = [.lit (.bool true)]) (h2 : (s.fn H (ds ++ gs)).args = ds) (h3 : (s.fn H (ds ++ gs)).vars = []) (hb : Below W.heap.size W W') :
 s.post enc P f false true false false W args (.bool true) W' := by
 have hr : ∀ t ∈ f.params.toList, P.readableRec t = true ∧ t < P.types.size := fun t ht => by simpa using List.all_eq_true.1 hr' t ht
 have hW' := hW
 obtain ⟨p, q, hA, hV, rfl, hfz, hnd⟩ := hW
 refine ⟨ds, gs, _, [], p, [], hW', ?_, ?_, ?_, hb.frame _, fun h => by cases h⟩
 ·rw [hrt, h1]
  exact trodAll_cons_mk (shut_bool htb true) trodAll_mk0
 ·rw [h2]
  exact below_trodAll hl hb hr hA
 ·rw [h3, hv]
  rfl
theorem u8_bounds {n : Int} (h : (Lit.int .u8 n).wf = true) : 0 ≤ n ∧ n ≤ 255 := by
 simpa [Lit.wf, IntKind.min, IntKind.max, IntKind.signed, IntKind.bits] using h
end Go.Proofs.YtjjpdnpbhdcpbaaGreat
namespace Go.Proofs.YtjjpdnpbhdcpbaaGreat
set_option linter.unusedVariables false
open Go.ChangeShapes hiding strs
open Go.WideShapes Go.ChangeAt Go.RowKit Go.Deep
section
variable {H : Type} {enc : TypeId × Value → H} {P : Program} {W : World}
theorem row_of {t e : TypeId} {m n : Nat} {cs : List Value} {x : DataW H × List MemPlace} (ht : P.underlying t = some (.slice e)) (hce : P.cellsOf e = m) (hm : 0 < m) (h : DataW.trod enc P W 0 (fun _ => true) true n t cs = some x) :
 ∃ (A : Option Addr) (l c : Nat) (f : Nat → List Value), cs = [.slice A l c] ∧ (A = none → l = 0 ∧ c = 0) ∧ l ≤ c ∧ c ≤ maxLen ∧ Rd W A ((List.range l).flatMap f) ∧ (∀ i, (f i).length = m) ∧ ∀ i, i < l → ∃ n' x', DataW.trod enc P W 0 (fun _ => true) true n' e (f i) = some x' := by
 rcases DataW.trod_slice ht h with ⟨hcs, hx⟩ | ⟨a, len, cap, elems, rest, n', _, hcs, _, _, hl, hmx, hlen, hel, _⟩
 ·exact ⟨none, 0, 0, fun _ => List.replicate m default, hcs, fun _ => ⟨rfl, rfl⟩, Nat.le_refl _, by simp [maxLen], Rd.nil _ _, fun _ => by simp, fun i hi => by omega⟩
 ·have each : ∀ i, i < len → ∃ ci : List Value, ci.length = m ∧ (∀ j (hj : j < ci.length), W.cell? ((a.add (i * m)).add j) = some ci[j]) ∧ ∃ x', DataW.trod enc P W 0 (fun _ => true) true n' e ci = some x' := by
   intro i hi
   have := hel i hi
   rw [List.getElem?_eq_getElem (by omega), hce, Option.bind_eq_some_iff] at this
   obtain ⟨ci, hci, ht'⟩ := this
   obtain ⟨_, h2, h3⟩ := World.cells?_some hci
   exact ⟨ci, h2, fun j hj => by rw [h3 j (by omega), List.getElem?_eq_getElem hj], _, ht'⟩
  obtain ⟨f, hf⟩ : ∃ f : Nat → List Value, ∀ i, (f i).length = m ∧ (i < len → (∀ j (hj : j < (f i).length), W.cell? ((a.add (i * m)).add j) = some (f i)[j]) ∧ ∃ x', DataW.trod enc P W 0 (fun _ => true) true n' e (f i) = some x') := by
   refine ⟨fun i => if hi : i < len then (each i hi).choose else List.replicate m default, fun i => ?_⟩
   by_cases hi : i < len
   ·simp only [hi, dif_pos]
    have q := (each i hi).choose_spec
    exact ⟨q.1, fun _ => q.2⟩
   ·simp [hi]
  refine ⟨some a, len, cap, f, hcs, (fun h => by cases h), hl, hmx, ?_, fun i => (hf i).1, fun i hi => ⟨n', (hf i).2 hi |>.2⟩⟩
  by_cases hz : len = 0
  ·left; subst hz; rfl
  ·obtain ⟨b, off, spot⟩ := a
   have hc0 := ((hf 0).2 (by omega)).1 0 (by rw [(hf 0).1]; exact hm)
   have hspot : spot = none := by simpa [Addr.add] using World.cell?_spot hc0
   subst hspot
   right
   refine ⟨b, off, rfl, fun j hj => ?_⟩
   have hjl : j < len * m := by rw [flat_len f m (fun i => (hf i).1)] at hj; simpa using hj
   have hd : j / m < len := Nat.div_lt_of_lt_mul (by rw [Nat.mul_comm]; exact hjl)
   have hr : j % m < m := Nat.mod_lt _ hm
   have hq := ((hf (j / m)).2 hd).1 (j % m) (by rw [(hf _).1]; exact hr)
   have hu : (f (j / m))[j % m]? = some ((f (j / m))[j % m]'(by rw [(hf _).1]; exact hr)) := List.getElem?_eq_getElem _
   generalize (f (j / m))[j % m]'(by rw [(hf _).1]; exact hr) = u at hq hu
   have e1 : off + j / m * m + j % m = off + j := by have := Nat.div_add_mod j m; rw [Nat.mul_comm] at this; omega
   rw [Addr.add_lit, Addr.add_lit, e1] at hq
   have hg := flat_get f m (fun i => (hf i).1) (List.range len) (j / m) (j % m) (by simpa using hd) hr
   have e2 : j / m * m + j % m = j := by have := Nat.div_add_mod j m; rw [Nat.mul_comm] at this; omega
   rw [e2, List.getElem_range, hu, List.getElem?_eq_getElem hj] at hg
   exact hq.trans hg.symm
theorem flat_map {α : Type} {l : Nat} {f : Nat → List Value} {g : Nat → α} {h : α → List Value} (hh : ∀ i, i < l → f i = h (g i)) : (List.range l).flatMap f = ((List.range l).map g).flatMap h := by
 rw [List.flatMap_map]
 induction l with
 | zero => rfl
 | succ l ih =>
   rw [List.range_succ, List.flatMap_append, List.flatMap_append, ih (fun i hi => hh i (by omega))]
   simp [hh l (by omega)]
theorem row_map {α : Type} [Inhabited α] {t e : TypeId} {m n : Nat} {cs : List Value} {x : DataW H × List MemPlace} {g : α → List Value} {Good : α → Prop} (ht : P.underlying t = some (.slice e)) (hce : P.cellsOf e = m) (hm : 0 < m)
 (hg : ∀ n' ci x', DataW.trod enc P W 0 (fun _ => true) true n' e ci = some x' → ∃ a, ci = g a ∧ Good a) (h : DataW.trod enc P W 0 (fun _ => true) true n t cs = some x) :
 ∃ (A : Option Addr) (L : List α) (c : Nat), cs = [.slice A L.length c] ∧ (A = none → L.length = 0 ∧ c = 0) ∧ L.length ≤ c ∧ c ≤ maxLen ∧ Rd W A (L.flatMap g) ∧ ∀ a ∈ L, Good a := by
 obtain ⟨A, l, c, f, h1, h2, h3, h4, h5, h6, h7⟩ := row_of ht hce hm h
 have each : ∀ i, i < l → ∃ a, f i = g a ∧ Good a := fun i hi => by obtain ⟨n', x', hx⟩ := h7 i hi; exact hg n' _ x' hx
 obtain ⟨k, hk⟩ : ∃ k : Nat → α, ∀ i, i < l → f i = g (k i) ∧ Good (k i) :=
  ⟨fun i => if hi : i < l then (each i hi).choose else default, fun i hi => by simp only [hi, dif_pos]; exact (each i hi).choose_spec⟩
 refine ⟨A, (List.range l).map k, c, by simpa using h1, by simpa using h2, by simpa using h3, h4, ?_, ?_⟩
 ·rw [← flat_map (fun i hi => (hk i hi).1)]; exact h5
 ·intro a ha
  obtain ⟨i, hi, rfl⟩ := List.mem_map.1 ha
  exact (hk i (List.mem_range.1 hi)).2
end
end Go.Proofs.YtjjpdnpbhdcpbaaGreat
namespace Go.Proofs.YtjjpdnpbhdcpbaaGreat
set_option linter.unusedVariables false
open Go.RowKit
section
variable {P : Program} (w : World) {ops : Array Oper} {rest : List Oper} {o : Oper} {a : Act} {K : Act → World → Prop} {Q : Exit → Act → World → Prop} {E : Prop}
theorem app_op (s x : Operand) (t : TypeId) (ho : o.op = .call { callee := .builtin .append, args := #[s, x], argTypes := #[t, t] })
 (e : TypeId) (z : Value) (size bytes base : Nat) (ht : P.underlying t = some (.slice e)) (hi : (P.info? e).map (fun i => (i.zero, i.size, i.bytes)) = some (some z, size, bytes)) (hzs : z.cells.size = size) (hsz : 0 < size)
 (v : Value) (n : Nat) (xs : List Value) (A : Option Addr) (m c : Nat) (news : List Value) (hs : a.eval s = v) (hx : a.eval x = .slice A m c) (hown : w.ownsRow base e size v n xs)
 (hnil : A = none → m = 0 ∧ c = 0) (hR : Rd w A news) (hm : news.length = m * size) (hu : ∀ u ∈ news, u.oneCell' = true) (hn : (n + m) * bytes ≤ 140737488355328) (h63 : n + m ≤ maxLen) (hb : base ≤ w.heap.size)
 (h : ∀ v' w', w'.ownsRow base e size v' (n + m) (xs ++ news) → w.grownBy w' v.ownBlock → K (a.put o.dst v') w') : o.wp P a w K Q := by
 obtain ⟨i, hi', h1, h2, h3⟩ := info_parts hi
 unfold Oper.wp execOp
 cases A with
 | none =>
   obtain ⟨rfl, rfl⟩ := hnil rfl
   have hnews : news = [] := List.eq_nil_of_length_eq_zero (by omega)
   subst hnews
   have hrun := run_append_owned_none (P := P) w base t o.type e i size ht hi' v n xs hown
   simp only [ho, resolve, invoke, builtin, Sem.run_bind, Sem.run_pure, Result.andThen_ok, List.map_toArray, List.map_cons, List.map_nil, hs, hx, hrun]
   exact h v w (by simpa using hown) (World.grownBy.refl _ _)
 | some ad =>
   have hnews : ∀ j u, news[j]? = some u → w.cell? (ad.add j) = some u := by
    intro j u hj
    rcases hR with hR | ⟨b, off, hA, hc⟩
    ·subst hR; simp at hj
    ·have hlt := (List.getElem?_eq_some_iff.1 hj).1
     injection hA with hA
     subst hA
     rw [Addr.add_lit, hc j hlt]
     rw [List.getElem?_eq_getElem hlt] at hj
     exact hj
   obtain ⟨v', w', hrun, r1, r2, _⟩ := run_append_own (P := P) w base t o.type e i z size bytes ht hi' h1 h2 h3 hzs hsz v n xs hown ad m c news hm hnews hu h63 hn hb
   simp only [ho, resolve, invoke, builtin, Sem.run_bind, Sem.run_pure, Result.andThen_ok, List.map_toArray, List.map_cons, List.map_nil, hs, hx, hrun]
   exact h v' w' r1 r2
theorem app_list (s x : Operand) (t : TypeId) (hgd : o.guard = none) (ho : o.op = .call { callee := .builtin .append, args := #[s, x], argTypes := #[t, t] })
 (e : TypeId) (z : Value) (size bytes base : Nat) (ht : P.underlying t = some (.slice e)) (hi : (P.info? e).map (fun i => (i.zero, i.size, i.bytes)) = some (some z, size, bytes)) (hzs : z.cells.size = size) (hsz : 0 < size)
 (v : Value) (n : Nat) (xs : List Value) (A : Option Addr) (m c : Nat) (news : List Value) (hs : a.eval s = v) (hx : a.eval x = .slice A m c) (hown : w.ownsRow base e size v n xs)
 (hnil : A = none → m = 0 ∧ c = 0) (hR : Rd w A news) (hm : news.length = m * size) (hu : ∀ u ∈ news, u.oneCell' = true) (hn : (n + m) * bytes ≤ 140737488355328) (h63 : n + m ≤ maxLen) (hb : base ≤ w.heap.size)
 (h : ∀ v' w', w'.ownsRow base e size v' (n + m) (xs ++ news) → w.grownBy w' v.ownBlock → wpList P ops Q rest (a.put o.dst v') w') : wpList P ops Q (o :: rest) a w :=
 wpList_plain hgd fun K hK => app_op w s x t ho e z size bytes base ht hi hzs hsz v n xs A m c news hs hx hown hnil hR hm hu hn h63 hb fun v' w' h1 h2 => hK _ _ (h v' w' h1 h2)
end
end Go.Proofs.YtjjpdnpbhdcpbaaGreat
namespace Go.Proofs.YtjjpdnpbhdcpbaaGreat
set_option linter.unusedVariables false
open Go.RowKit Go.Shelf
def rots : List UInt8 → List SgRow
 | [] => []
 | a :: S => match S with
   | [] => []
   | b :: _ => rotRow a b :: rots S
theorem rots_two (a b : UInt8) (S : List UInt8) : rots (a :: b :: S) = rotRow a b :: rots (b :: S) := rfl
theorem rots_snoc (a b : UInt8) : ∀ S : List UInt8, rots (S ++ [a, b]) = rots (S ++ [a]) ++ [rotRow a b]
 | [] => rfl
 | [x] => rfl
 | x :: y :: S => by
   have := rots_snoc a b (y :: S)
   rw [List.cons_append, List.cons_append, List.cons_append, List.cons_append, rots_two, rots_two, List.cons_append]
   rw [List.cons_append, List.cons_append] at this
   rw [this]
theorem rots_take (S : List UInt8) (k : Nat) (h : k + 1 < S.length) : rots (S.take (k + 2)) = rots (S.take (k + 1)) ++ [rotRow S[k] S[k + 1]] := by
 have h1 : S.take (k + 1) = S.take k ++ [S[k]] := by rw [List.take_append_getElem]
 have h2 : S.take (k + 2) = S.take k ++ [S[k], S[k + 1]] := by
  rw [show k + 2 = (k + 1) + 1 from rfl, ← List.take_append_getElem h, h1, List.append_assoc]
  rfl
 rw [h1, h2, rots_snoc]
theorem rots_len : ∀ S : List UInt8, (rots S).length = S.length - 1
 | [] => rfl
 | [_] => rfl
 | a :: b :: S => by
   rw [rots_two, List.length_cons, rots_len (b :: S)]
   simp
theorem flw_strip : ∀ (L : List SgRow) (key : Sg.Str), flwR key (L.map stripR) = flwR key L
 | [], _ => rfl
 | x :: L, key => by
   show (if vpB x.key = true then (if verB key (Sg.dgs (6 :: x.key)) x.i x.C x.T = true then flwR x.key (L.map stripR) else ([], 18)) else ([], 18)) = (if vpB x.key = true then (if verB key (Sg.dgs (6 :: x.key)) x.i x.C x.T = true then flwR x.key L else ([], 18)) else ([], 18))
   rw [flw_strip L]
theorem follow_strip (L : List SgRow) (key : Sg.Str) : followR key (L.map stripR) = followR key L := by
 unfold followR
 rw [flw_strip, List.length_map]
theorem flw_cons (a b : UInt8) (L : List SgRow) : flwR (pk1 a) (rotRow a b :: L) = flwR (pk1 b) L := by
 show (if vpB (pk1 b) = true then (if verB (pk1 a) (Sg.dgs (6 :: pk1 b)) (rotRow a b).i (rotRow a b).C (rotRow a b).T = true then flwR (pk1 b) L else ([], 18)) else ([], 18)) = _
 rw [if_pos (show vpB (pk1 b) = true from vpB_pub _ 1 (by decide)), if_pos (rot_acc a b)]
theorem flw_rots : ∀ (S : List UInt8) (a : UInt8), flwR (pk1 a) (rots (a :: S)) = (pk1 ((a :: S).getLast (List.cons_ne_nil _ _)), 0)
 | [], a => rfl
 | b :: S, a => by
   rw [rots_two, flw_cons, flw_rots S b]
   rfl
def spoil (x : SgRow) : SgRow := { x with A := none, C := [], a := 0 }
theorem flw_spoil : ∀ (S : List UInt8) (a : UInt8) (i : Nat), i < (rots (a :: S)).length → flwR (pk1 a) ((rots (a :: S)).modify i spoil) = ([], 18)
 | [], a, i, h => absurd h (Nat.not_lt_zero _)
 | b :: S, a, 0, h => by
   show (if vpB (pk1 b) = true then (if verB (pk1 a) (Sg.dgs (6 :: pk1 b)) (rotRow a b).i [] (rotRow a b).T = true then flwR (pk1 b) (rots (b :: S)) else ([], 18)) else ([], 18)) = _
   rw [if_pos (show vpB (pk1 b) = true from vpB_pub _ 1 (by decide)), if_neg]
   unfold verB
   repeat' split
   all_goals first | (intro h; cases h) | skip
   rename_i h67 _
   cases h67
 | b :: S, a, i + 1, h => by
   rw [rots_two, List.modify_succ_cons, flw_cons]
   exact flw_spoil S b i (by rw [rots_two] at h; exact Nat.lt_of_succ_lt_succ h)
theorem spoil_strip (L : List SgRow) (i : Nat) : (L.modify i spoil).map stripR = (L.map stripR).modify i spoil := by
 induction L generalizing i with
 | nil => simp
 | cons x L ih =>
   cases i with
   | zero => rfl
   | succ i => rw [List.modify_succ_cons, List.map_cons, List.map_cons, List.modify_succ_cons, ih]
end Go.Proofs.YtjjpdnpbhdcpbaaGreat
namespace Go.Proofs.YtjjpdnpbhdcpbaaGreat
set_option linter.unusedVariables false
open Go.RowKit Go.Shelf
attribute [local go_sem] Oper.semAt_some
theorem info_rot : (Tryz.prog.info? 41).map (fun i => (i.zero, i.size, i.bytes)) = some (some (.agg #[.string ⟨#[]⟩, .int .i64 0, .slice none 0 0, .slice none 0 0]), 4, 72) := by kernel_rfl
theorem rowC_one {L : List SgRow} : ∀ u ∈ L.flatMap rowC, u.oneCell' = true := fun u hu => by
 obtain ⟨x, _, hx⟩ := List.mem_flatMap.1 hu
 simp only [rowC, List.mem_cons, List.not_mem_nil, or_false] at hx
 rcases hx with rfl | rfl | rfl | rfl <;> rfl
theorem flatC_len (L : List SgRow) : (L.flatMap rowC).length = L.length * 4 := flat_len rowC 4 (fun _ => rfl) L
set_option maxHeartbeats 400000 in
theorem clonerot_spec (A : Option Addr) (L : List SgRow) (c : Nat) (w : World) (hR : Rd w A (L.flatMap rowC)) (hnil : A = none → L.length = 0 ∧ c = 0) (hL : L.length ≤ 1024) :
 Calls Tryz.prog 49 #[.slice A L.length c] w fun e w' => ∃ v, e = .returned v ∧ w'.ownsRow w.heap.size 41 4 v L.length (L.flatMap rowC) ∧ Below w.heap.size w w' := by
 cases A with
 | none =>
   obtain ⟨h1, rfl⟩ := hnil rfl
   have hL0 : L = [] := List.eq_nil_of_length_eq_zero h1
   subst hL0
   have kn := fun w => Lib.run_eql_slice_nil (P := Tryz.prog) w 47 41 none 0 0 0 0 Tryz.underlying47
   clear hR hnil h1 hL
   go_enter Tryz.func49, Tryz.ntmps49
   go_wp2
   go_ret
   exact ⟨_, rfl, World.ownsRow_nil _ _ _ _, Below.refl _ _⟩
 | some a =>
   have kn := fun w => Lib.run_eql_slice_nil (P := Tryz.prog) w 47 41 (some a) L.length c 0 0 Tryz.underlying47
   go_enter Tryz.func49, Tryz.ntmps49
   go_wp2_with (at_builtin; go_must (refine app_list _ _ _ 47 rfl rfl 41 _ 4 72 w.heap.size Tryz.underlying47 info_rot rfl (by decide) _ 0 [] (some a) L.length c (L.flatMap rowC) rfl rfl (World.ownsRow_lit w #[] 0 (Nat.le_refl _) (by decide) rfl) hnil (hR.alloc _) (flatC_len L) rowC_one (by omega) (by unfold maxLen; omega) (by simp) ?_))
   intro v1 w1 o1 g1
   go_wp2
   go_ret
   refine ⟨_, rfl, ?_, ((Below.refl _ w).alloc (Nat.le_refl _) _).grown g1 (by simp) (fun k hk => by cases hk; exact Nat.le_refl _)⟩
   simpa using o1
theorem rd_val {w : World} {A : Option Addr} {L : List UInt8} (h : Rd w A (vals L)) {k : Nat} (hk : k < L.length) : ∃ b off, A = some ⟨b, off, none⟩ ∧ w.cell? ⟨b, off + k, none⟩ = some (.int .u8 (L[k].toNat : Int)) := by
 rcases h with h | ⟨b, off, rfl, hc⟩
 ·have : L = [] := by simpa [vals] using h
  subst this
  simp at hk
 ·refine ⟨b, off, rfl, ?_⟩
  rw [hc k (by rw [vals_length]; exact hk)]
  simp [vals]
theorem rd_val_at {w : World} {b off : Nat} {L : List UInt8} (h : Rd w (some ⟨b, off, none⟩) (vals L)) {k : Nat} (hk : k < L.length) : w.cell? ⟨b, off + k, none⟩ = some (.int .u8 (L[k].toNat : Int)) := by
 obtain ⟨b', off', e, hc⟩ := rd_val h hk
 injection e with e
 injection e with e1 e2
 subst e1 e2
 exact hc
theorem rd_key_at {w : World} {b : Nat} {L : List UInt8} (h : Rd w (some ⟨b, 0, none⟩) (strs (L.map pk1))) {k : Nat} (hk : k < L.length) : w.cell? ⟨b, k, none⟩ = some (.string ⟨(pk1 L[k]).toArray⟩) := by
 obtain ⟨b', off', e, hc⟩ := h.str (show k < (L.map pk1).length by rw [List.length_map]; exact hk)
 injection e with e
 injection e with e1 e2
 subst e1 e2
 rw [Nat.zero_add, List.getElem_map] at hc
 exact hc
theorem own_some {w : World} {base : Nat} {e : TypeId} {size n c : Nat} {A : Option Addr} {xs : List Value} (h : w.ownsRow base e size (.slice A n c) n xs) (hn : 0 < n) : ∃ g, A = some ⟨g, 0, none⟩ := by
 rcases h.2 with ⟨_, h3⟩ | ⟨g, cap, cur, hv, _⟩
 ·omega
 ·injection hv with hv
  exact ⟨g, hv⟩
theorem St.storeO {lo : Nat} {w0 w : World} {Rs : List Res} {e : TypeId} {size n c g : Nat} {xs : List Value} (h : St lo w0 w (ownR e size (.slice (some ⟨g, 0, none⟩) n c) n xs :: Rs)) (p : Nat) (u : Value) : St lo w0 (w.setCell ⟨g, p, none⟩ u) (ownR e size (.slice (some ⟨g, 0, none⟩) n c) n (xs.set p u) :: Rs) := by
 obtain ⟨F, g1, g2, g3⟩ := h.open
 have hgF : F g := g1.2.1 g rfl
 exact g3 (F' := F) _ ((mod_set w g p u).mono (fun i _ e => by subst e; exact hgF)) ⟨(g1.1.stored p u).1, g1.2.1, fun k hk => by simpa [World.setCell] using g1.2.2 k hk⟩ (fun k hk => .inl hk)
theorem flatC_set : ∀ (L : List SgRow) (i : Nat), i < L.length → (L.flatMap rowC).set (i * 4 + 2) (.slice none 0 0) = (L.modify i spoil).flatMap rowC
 | [], i, h => absurd h (Nat.not_lt_zero _)
 | x :: L, 0, _ => rfl
 | x :: L, i + 1, h => by
   have hs : (i + 1) * 4 + 2 = (i * 4 + 2) + 4 := by omega
   rw [hs, List.modify_succ_cons, List.flatMap_cons, List.flatMap_cons, ← flatC_set L i (Nat.lt_of_succ_lt_succ h)]
   rfl
theorem spoil_ok {w : World} {L : List SgRow} (h : ∀ x ∈ L, RowOk w x) (i : Nat) : ∀ x ∈ L.modify i spoil, RowOk w x := by
 induction L generalizing i with
 | nil => intro x hx; simp at hx
 | cons y L ih =>
   intro x hx
   cases i with
   | zero =>
     rcases List.mem_cons.1 hx with rfl | hx
     ·obtain ⟨h1, h2, _, _, h3, h4⟩ := h y (List.mem_cons_self ..)
      exact ⟨.inl rfl, h2, Nat.le_refl _, Nat.zero_le _, h3, h4⟩
     ·exact h x (List.mem_cons_of_mem _ hx)
   | succ i =>
     rw [List.modify_succ_cons] at hx
     rcases List.mem_cons.1 hx with rfl | hx
     ·exact h x (List.mem_cons_self ..)
     ·exact ih (fun z hz => h z (List.mem_cons_of_mem _ hz)) i x hx
theorem follow_all (L : List UInt8) (h : 2 ≤ L.length) (R : List SgRow) (hR : R.map stripR = rots L) (hl : R.length ≤ 1024) : followR (pk1 L[0]) R = (pk1 (L[L.length - 1]'(by omega)), 0) := by
 rw [← follow_strip]
 unfold followR
 rw [List.length_map, if_pos hl, hR]
 match L, h with
 | a :: S, h =>
   have := flw_rots S a
   rw [List.getLast_eq_getElem] at this
   exact this
theorem follow_bad (L : List UInt8) (h : 2 ≤ L.length) (R : List SgRow) (hR : R.map stripR = rots L) (hl : R.length ≤ 1024) (i : Nat) (hi : i < R.length) : followR (pk1 L[0]) (R.modify i spoil) = ([], 18) := by
 rw [← follow_strip]
 unfold followR
 rw [List.length_map, List.length_modify, if_pos hl, spoil_strip, hR]
 have hi' : i < (rots L).length := by rw [← hR, List.length_map]; exact hi
 match L, h, hi' with
 | a :: S, h, hi' => exact flw_spoil S a i hi'
end Go.Proofs.YtjjpdnpbhdcpbaaGreat
namespace Go.Proofs.YtjjpdnpbhdcpbaaGreat
set_option linter.unusedVariables false
open Go.ChangeShapes hiding strs
open Go.WideShapes Go.ChangeAt Go.RowKit Go.Deep
theorem vals_flat (L : List UInt8) : L.flatMap (fun x => [Value.int .u8 (x.toNat : Int)]) = vals L := by
 induction L with
 | nil => rfl
 | cons x L ih => simp only [List.flatMap_cons, ih]; rfl
theorem u8_byte {k : Int} (h : (Lit.int .u8 k).wf = true) : ((UInt8.ofNat k.toNat).toNat : Int) = k := by
 have := u8_bounds h
 rw [UInt8.toNat_ofNat']
 omega
section
variable {H : Type} {enc : TypeId × Value → H} {P : Program} {W : World}
theorem open_vals {t e : TypeId} {v : Value} {d : DataW H} {p : List MemPlace} {base : Nat} (ht : P.underlying t = some (.slice e)) (he : P.underlying e = some (.int .u8)) (hce : P.cellsOf e = 1) (hok : Value.okWide P W .any base t v) (h : DataW.Trod enc P W 0 (fun _ => true) true t v d p) :
 ∃ (A : Option Addr) (L : List UInt8) (c : Nat), v = .slice A L.length c ∧ (A = none → L.length = 0 ∧ c = 0) ∧ L.length ≤ c ∧ c ≤ maxLen ∧ Rd W A (vals L) := by
 obtain ⟨a0, len, cap, rfl⟩ := okWide_slice ht hok
 obtain ⟨fuel, hf⟩ := h
 obtain ⟨A, L, c, h1, h2, h3, h4, h5, _⟩ := row_map (g := fun x : UInt8 => [Value.int .u8 (x.toNat : Int)]) (Good := fun _ => True) ht hce (by decide) (fun n' ci x' hx => by
  obtain ⟨k, hk, _, hw⟩ := DataW.trod_int he hx
  exact ⟨UInt8.ofNat k.toNat, by rw [u8_byte hw]; exact hk, trivial⟩) hf
 simp [Value.cells] at h1
 obtain ⟨rfl, rfl, rfl⟩ := h1
 exact ⟨_, L, _, rfl, h2, h3, h4, by rw [vals_flat] at h5; exact h5⟩
end
end Go.Proofs.YtjjpdnpbhdcpbaaGreat
