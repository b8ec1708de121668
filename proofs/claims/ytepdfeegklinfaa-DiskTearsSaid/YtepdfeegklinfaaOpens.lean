/-
  Slices of structs (calls of a disk, its operations) and of ints as they come in. Conditions: none.
-/
import Derived.Test.YtepdfeegklinfaaFrame
import Derived.Test.YtepdfeegklinfaaDkE
import Derived.Deep.Strs
namespace Go.Proofs.Ytepdfeegklinfaa
set_option linter.unusedVariables false
open Go.ChangeShapes hiding strs
open Go.WideShapes Go.ChangeAt Go.RowKit Go.Deep

section
variable {H : Type} {enc : TypeId × Value → H} {P : Program} {W : World}
/-- a slice that came in, element by element -/
theorem row_of {t e : TypeId} {m n : Nat} {cs : List Value} {x : DataW H × List MemPlace} (ht : P.underlying t = some (.slice e)) (hce : P.cellsOf e = m) (hm : 0 < m) (h : DataW.trod enc P W 0 (fun _ => true) true n t cs = some x) :
    ∃ (A : Option Addr) (l c : Nat) (f : Nat → List Value), cs = [.slice A l c] ∧ (A = none → l = 0 ∧ c = 0) ∧ l ≤ c ∧ c ≤ maxLen ∧ Rd W A ((List.range l).flatMap f) ∧ (∀ i, (f i).length = m) ∧ ∀ i, i < l → ∃ n' x', DataW.trod enc P W 0 (fun _ => true) true n' e (f i) = some x' := by
  rcases DataW.trod_slice ht h with ⟨hcs, hx⟩ | ⟨a, len, cap, elems, rest, n', _, hcs, _, _, hl, hmx, hlen, hel, _⟩
  · exact ⟨none, 0, 0, fun _ => List.replicate m default, hcs, fun _ => ⟨rfl, rfl⟩, Nat.le_refl _, by simp [maxLen], Rd.nil _ _, fun _ => by simp, fun i hi => by omega⟩
  · have each : ∀ i, i < len → ∃ ci : List Value, ci.length = m ∧ (∀ j (hj : j < ci.length), W.cell? ((a.add (i * m)).add j) = some ci[j]) ∧ ∃ x', DataW.trod enc P W 0 (fun _ => true) true n' e ci = some x' := by
      intro i hi
      have := hel i hi
      rw [List.getElem?_eq_getElem (by omega), hce, Option.bind_eq_some_iff] at this
      obtain ⟨ci, hci, ht'⟩ := this
      obtain ⟨_, h2, h3⟩ := World.cells?_some hci
      exact ⟨ci, h2, fun j hj => by rw [h3 j (by omega), List.getElem?_eq_getElem hj], _, ht'⟩
    obtain ⟨f, hf⟩ : ∃ f : Nat → List Value, ∀ i, (f i).length = m ∧ (i < len → (∀ j (hj : j < (f i).length), W.cell? ((a.add (i * m)).add j) = some (f i)[j]) ∧ ∃ x', DataW.trod enc P W 0 (fun _ => true) true n' e (f i) = some x') := by
      refine ⟨fun i => if hi : i < len then (each i hi).choose else List.replicate m default, fun i => ?_⟩
      by_cases hi : i < len
      · simp only [hi, dif_pos]
        have q := (each i hi).choose_spec
        exact ⟨q.1, fun _ => q.2⟩
      · simp [hi]
    refine ⟨some a, len, cap, f, hcs, (fun h => by cases h), hl, hmx, ?_, fun i => (hf i).1, fun i hi => ⟨n', (hf i).2 hi |>.2⟩⟩
    by_cases hz : len = 0
    · left; subst hz; rfl
    · obtain ⟨b, off, spot⟩ := a
      have hc0 := ((hf 0).2 (by omega)).1 0 (by rw [(hf 0).1]; exact hm)
      have hspot : spot = none := by simpa [Addr.add] using World.cell?_spot hc0
      subst hspot
      right
      refine ⟨b, off, rfl, fun j hj => ?_⟩
      have hjl : j < len * m := by rw [flat_len f m (fun i => (hf i).1)] at hj; simpa using hj
      have hd : j / m < len := Nat.div_lt_of_lt_mul (by rw [Nat.mul_comm]; exact hjl)
      have hr : j % m < m := Nat.mod_lt _ hm
      have hq := ((hf (j / m)).2 hd).1 (j % m) (by rw [(hf _).1]; exact hr)
      have hu : (f (j / m))[j % m]? = some ((f (j / m))[j % m]'(by rw [(hf _).1]; exact hr)) := List.getElem?_eq_getElem _
      generalize (f (j / m))[j % m]'(by rw [(hf _).1]; exact hr) = u at hq hu
      have e1 : off + j / m * m + j % m = off + j := by have := Nat.div_add_mod j m; rw [Nat.mul_comm] at this; omega
      rw [Addr.add_lit, Addr.add_lit, e1] at hq
      have hg := flat_get f m (fun i => (hf i).1) (List.range len) (j / m) (j % m) (by simpa using hd) hr
      have e2 : j / m * m + j % m = j := by have := Nat.div_add_mod j m; rw [Nat.mul_comm] at this; omega
      rw [e2, List.getElem_range, hu, List.getElem?_eq_getElem hj] at hg
      exact hq.trans hg.symm

theorem flat_map {α : Type} {l : Nat} {f : Nat → List Value} {g : Nat → α} {h : α → List Value} (hh : ∀ i, i < l → f i = h (g i)) : (List.range l).flatMap f = ((List.range l).map g).flatMap h := by
  rw [List.flatMap_map]
  induction l with
  | zero => rfl
  | succ l ih =>
    rw [List.range_succ, List.flatMap_append, List.flatMap_append, ih (fun i hi => hh i (by omega))]
    simp [hh l (by omega)]
/-- .. where each element is the image of something -/
theorem row_map {α : Type} [Inhabited α] {t e : TypeId} {m n : Nat} {cs : List Value} {x : DataW H × List MemPlace} {g : α → List Value} {Good : α → Prop} (ht : P.underlying t = some (.slice e)) (hce : P.cellsOf e = m) (hm : 0 < m)
    (hg : ∀ n' ci x', DataW.trod enc P W 0 (fun _ => true) true n' e ci = some x' → ∃ a, ci = g a ∧ Good a) (h : DataW.trod enc P W 0 (fun _ => true) true n t cs = some x) :
    ∃ (A : Option Addr) (L : List α) (c : Nat), cs = [.slice A L.length c] ∧ (A = none → L.length = 0 ∧ c = 0) ∧ L.length ≤ c ∧ c ≤ maxLen ∧ Rd W A (L.flatMap g) ∧ ∀ a ∈ L, Good a := by
  obtain ⟨A, l, c, f, h1, h2, h3, h4, h5, h6, h7⟩ := row_of ht hce hm h
  have each : ∀ i, i < l → ∃ a, f i = g a ∧ Good a := fun i hi => by obtain ⟨n', x', hx⟩ := h7 i hi; exact hg n' _ x' hx
  obtain ⟨k, hk⟩ : ∃ k : Nat → α, ∀ i, i < l → f i = g (k i) ∧ Good (k i) :=
    ⟨fun i => if hi : i < l then (each i hi).choose else default, fun i hi => by simp only [hi, dif_pos]; exact (each i hi).choose_spec⟩
  refine ⟨A, (List.range l).map k, c, by simpa using h1, by simpa using h2, by simpa using h3, h4, ?_, ?_⟩
  · rw [← flat_map (fun i hi => (hk i hi).1)]; exact h5
  · intro a ha
    obtain ⟨i, hi, rfl⟩ := List.mem_map.1 ha
    exact (hk i (List.mem_range.1 hi)).2

theorem ints_flat (L : List Int) : L.flatMap (fun x => [Value.int .i64 x]) = ints L := by
  induction L with
  | nil => rfl
  | cons x L ih => simp only [List.flatMap_cons, ih]; rfl
/-- a slice of ints -/
theorem ints_of {t e : TypeId} {n : Nat} {cs : List Value} {x : DataW H × List MemPlace} (ht : P.underlying t = some (.slice e)) (he : P.underlying e = some (.int .i64)) (hce : P.cellsOf e = 1) (h : DataW.trod enc P W 0 (fun _ => true) true n t cs = some x) :
    ∃ (A : Option Addr) (L : List Int) (c : Nat), cs = [.slice A L.length c] ∧ (A = none → L.length = 0 ∧ c = 0) ∧ L.length ≤ c ∧ c ≤ maxLen ∧ Rd W A (ints L) := by
  obtain ⟨A, L, c, h1, h2, h3, h4, h5, _⟩ := row_map (g := fun x => [Value.int .i64 x]) (Good := fun _ => True) ht hce (by decide) (fun n' ci x' hx => by obtain ⟨k, hk, _, _⟩ := DataW.trod_int he hx; exact ⟨k, hk, trivial⟩) h
  exact ⟨A, L, c, h1, h2, h3, h4, by rw [ints_flat] at h5; exact h5⟩
theorem open_ints {t e : TypeId} {v : Value} {d : DataW H} {p : List MemPlace} {base : Nat} (ht : P.underlying t = some (.slice e)) (he : P.underlying e = some (.int .i64)) (hce : P.cellsOf e = 1) (hok : Value.okWide P W .any base t v) (h : DataW.Trod enc P W 0 (fun _ => true) true t v d p) :
    ∃ (A : Option Addr) (L : List Int) (c : Nat), v = .slice A L.length c ∧ (A = none → L.length = 0 ∧ c = 0) ∧ L.length ≤ c ∧ c ≤ maxLen ∧ Rd W A (ints L) := by
  obtain ⟨a0, len, cap, rfl⟩ := okWide_slice ht hok
  obtain ⟨fuel, hf⟩ := h
  obtain ⟨A, L, c, h1, h2⟩ := ints_of ht he hce hf
  simp [Value.cells] at h1
  obtain ⟨rfl, rfl, rfl⟩ := h1
  exact ⟨_, L, _, rfl, h2⟩

/-- an operation, as cells -/
theorem op_of {e ti ts tb : TypeId} {f0 f1 f2 : Field} (he : P.underlying e = some (.struct #[f0, f1, f2])) (h0 : f0.type = ti) (h1 : f1.type = ts) (h2 : f2.type = tb) (o0 : f0.offset = 0) (o1 : f1.offset = 1) (o2 : f2.offset = 2)
    (hti : P.underlying ti = some (.int .i64)) (hts : P.underlying ts = some .string) (htb : P.underlying tb = some .bool) (ci : P.cellsOf ti = 1) (cS : P.cellsOf ts = 1) (cb : P.cellsOf tb = 1) (hce : P.cellsOf e = 3)
    {n : Nat} {cs : List Value} {x : DataW H × List MemPlace} (h : DataW.trod enc P W 0 (fun _ => true) true n e cs = some x) : ∃ o : Dk.Op, cs = opc o ∧ o.data.length ≤ maxLen := by
  obtain ⟨y0, y1, y2, n', _, hl, hy0, hy1, hy2⟩ := trod_struct3 he h
  rw [h0, o0, ci] at hy0
  rw [h1, o1, cS] at hy1
  rw [h2, o2, cb] at hy2
  rw [hce] at hl
  match cs, hl with
  | [c0, c1, c2], _ =>
    obtain ⟨k, hk, _, _⟩ := DataW.trod_int hti hy0
    obtain ⟨s, hs, _, ws⟩ := DataW.trod_string hts hy1
    obtain ⟨b, hb, _⟩ := DataW.trod_bool htb hy2
    simp at hk hs hb
    subst hk hs hb
    exact ⟨⟨k, s.data.toList, b⟩, by simp [opc], by simpa using ws⟩
/-- a call of a disk: kind, operation, choices -/
structure Ac where
  kind : Int
  op : Dk.Op
  A : Option Addr
  cs : List Int
  c : Nat
instance : Inhabited Ac := ⟨⟨0, ⟨0, [], false⟩, none, [], 0⟩⟩
instance : Inhabited Dk.Op := ⟨⟨0, [], false⟩⟩
def acc (a : Ac) : List Value := [.int .u8 a.kind, .int .i64 a.op.page, .string ⟨a.op.data.toArray⟩, .bool a.op.sync, .slice a.A a.cs.length a.c]
def acts (L : List Ac) : List Value := L.flatMap acc
def AcOk (W : World) (a : Ac) : Prop := Rd W a.A (ints a.cs) ∧ (a.A = none → a.cs.length = 0 ∧ a.c = 0) ∧ a.cs.length ≤ 9223372036854775807 ∧ a.op.data.length ≤ 9223372036854775807 ∧ 0 ≤ a.kind ∧ a.kind ≤ 255
theorem AcOk.below {w w' : World} {a : Ac} (h : AcOk w a) (hb : Below w.heap.size w w') : AcOk w' a := ⟨h.1.below hb, h.2⟩
theorem ac_of {e tk te tl ti ts tb : TypeId} {g0 g1 g2 f0 f1 f2 : Field} (hg : P.underlying e = some (.struct #[g0, g1, g2])) (k0 : g0.type = tk) (k1 : g1.type = te) (k2 : g2.type = tl) (p0 : g0.offset = 0) (p1 : g1.offset = 1) (p2 : g2.offset = 4)
    (htk : P.underlying tk = some (.int .u8)) (htl : P.underlying tl = some (.slice ti)) (ck : P.cellsOf tk = 1) (cl : P.cellsOf tl = 1) (cae : P.cellsOf e = 5)
    (he : P.underlying te = some (.struct #[f0, f1, f2])) (h0 : f0.type = ti) (h1 : f1.type = ts) (h2 : f2.type = tb) (o0 : f0.offset = 0) (o1 : f1.offset = 1) (o2 : f2.offset = 2)
    (hti : P.underlying ti = some (.int .i64)) (hts : P.underlying ts = some .string) (htb : P.underlying tb = some .bool) (ci : P.cellsOf ti = 1) (cS : P.cellsOf ts = 1) (cb : P.cellsOf tb = 1) (hce : P.cellsOf te = 3)
    {n : Nat} {cs : List Value} {x : DataW H × List MemPlace} (h : DataW.trod enc P W 0 (fun _ => true) true n e cs = some x) : ∃ a : Ac, cs = acc a ∧ AcOk W a := by
  obtain ⟨y0, y1, y2, n', _, hl, hy0, hy1, hy2⟩ := trod_struct3 hg h
  rw [k0, p0, ck] at hy0
  rw [k1, p1, hce] at hy1
  rw [k2, p2, cl] at hy2
  rw [cae] at hl
  match cs, hl with
  | [c0, c1, c2, c3, c4], _ =>
    obtain ⟨k, hk, _, wk⟩ := DataW.trod_int htk hy0
    obtain ⟨o, ho, hd⟩ := op_of he h0 h1 h2 o0 o1 o2 hti hts htb ci cS cb hce hy1
    obtain ⟨A, L, c, hL, hn, hlc, hcm, hR⟩ := ints_of htl hti ci hy2
    simp [opc] at hk ho hL
    obtain ⟨rfl, rfl, rfl⟩ := ho
    subst hk hL
    have hw : 0 ≤ k ∧ k ≤ 255 := by simpa [Lit.wf, IntKind.min, IntKind.max, IntKind.signed, IntKind.bits] using wk
    refine ⟨⟨k, o, A, L, c⟩, rfl, hR, hn, ?_, ?_, hw⟩
    · have : maxLen = 9223372036854775807 := rfl
      show L.length ≤ _
      omega
    · have : maxLen = 9223372036854775807 := rfl
      show o.data.length ≤ _
      omega
end

section
variable {H : Type} {enc : TypeId × Value → H} {W : World}
set_option maxRecDepth 20000 in
theorem acts_open {base : Nat} {v : Value} {d : DataW H} {p : List MemPlace} (hok : Value.okWide Try.prog W .any base 22 v) (h : DataW.Trod enc Try.prog W 0 (fun _ => true) true 22 v d p) :
    ∃ (A : Option Addr) (L : List Ac) (c : Nat), v = .slice A L.length c ∧ (A = none → L.length = 0 ∧ c = 0) ∧ L.length ≤ c ∧ c ≤ maxLen ∧ Rd W A (acts L) ∧ ∀ a ∈ L, AcOk W a := by
  obtain ⟨a0, len, cap, rfl⟩ := okWide_slice Try.underlying22 hok
  obtain ⟨fuel, hf⟩ := h
  obtain ⟨A, L, c, h1, h2⟩ := row_map (g := acc) (Good := AcOk W) Try.underlying22 (m := 5) (by kernel_rfl) (by decide)
    (fun n' ci x' hx => ac_of Try.underlying41 rfl rfl rfl rfl rfl rfl Try.underlying5 Try.underlying39 (by kernel_rfl) (by kernel_rfl) (by kernel_rfl) Try.underlying38 rfl rfl rfl rfl rfl rfl Try.underlying3 Try.underlying9 Try.underlying4 (by kernel_rfl) (by kernel_rfl) (by kernel_rfl) (by kernel_rfl) hx) hf
  simp [Value.cells] at h1
  obtain ⟨rfl, rfl, rfl⟩ := h1
  exact ⟨_, L, _, rfl, h2⟩
set_option maxRecDepth 20000 in
theorem ops_open {base : Nat} {v : Value} {d : DataW H} {p : List MemPlace} (hok : Value.okWide Try.prog W .any base 55 v) (h : DataW.Trod enc Try.prog W 0 (fun _ => true) true 55 v d p) :
    ∃ (A : Option Addr) (L : List Dk.Op) (c : Nat), v = .slice A L.length c ∧ (A = none → L.length = 0 ∧ c = 0) ∧ L.length ≤ c ∧ c ≤ maxLen ∧ Rd W A (ops L) ∧ ∀ a ∈ L, a.data.length ≤ maxLen := by
  obtain ⟨a0, len, cap, rfl⟩ := okWide_slice Try.underlying55 hok
  obtain ⟨fuel, hf⟩ := h
  obtain ⟨A, L, c, h1, h2⟩ := row_map (g := opc) (Good := fun a => a.data.length ≤ maxLen) Try.underlying55 (m := 3) (by kernel_rfl) (by decide)
    (fun n' ci x' hx => op_of Try.underlying38 rfl rfl rfl rfl rfl rfl Try.underlying3 Try.underlying9 Try.underlying4 (by kernel_rfl) (by kernel_rfl) (by kernel_rfl) (by kernel_rfl) hx) hf
  simp [Value.cells] at h1
  obtain ⟨rfl, rfl, rfl⟩ := h1
  exact ⟨_, L, _, rfl, h2⟩
end
end Go.Proofs.Ytepdfeegklinfaa
