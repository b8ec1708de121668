/-
  Plain mathematics of a disk: pages, pending writes, what is read, what a crash leaves. Conditions: none.
-/
import Derived.Test.YtepdfeegklinfaaKit
import Derived.Maps.OwnSet
namespace Go.Proofs.Ytepdfeegklinfaa.Dk
set_option linter.unusedVariables false

abbrev Str := List UInt8
abbrev Wr := Nat × Str
def unread : Str := [33]
/-- an operation as it is recorded -/
structure Op where
  page : Int
  data : Str
  sync : Bool

/-- the data of the last write to a page -/
def last : List Wr → Nat → Option Str
  | [], _ => none
  | x :: P, p => match last P p with
    | some y => some y
    | none => if x.1 = p then some x.2 else none
/-- the index of the last write to a page -/
def lastIx : List Wr → Nat → Option Nat
  | [], _ => none
  | x :: P, p => match lastIx P p with
    | some i => some (i + 1)
    | none => if x.1 = p then some 0 else none

theorem last_snoc (P : List Wr) (x : Wr) (p : Nat) : last (P ++ [x]) p = if x.1 = p then some x.2 else last P p := by
  induction P with
  | nil => simp [last]
  | cons y P ih =>
    simp only [List.cons_append, last, ih]
    by_cases h : x.1 = p <;> simp [h]
theorem lastIx_snoc (P : List Wr) (x : Wr) (p : Nat) : lastIx (P ++ [x]) p = if x.1 = p then some P.length else lastIx P p := by
  induction P with
  | nil => simp [lastIx]
  | cons y P ih =>
    simp only [List.cons_append, lastIx, ih]
    by_cases h : x.1 = p <;> simp [h]
theorem lastIx_lt {p : Nat} : ∀ {P : List Wr} {i : Nat}, lastIx P p = some i → i < P.length := by
  intro P
  induction P with
  | nil => intro i h; simp [lastIx] at h
  | cons x P ih =>
    intro i h
    unfold lastIx at h
    cases h2 : lastIx P p with
    | some j => rw [h2] at h; simp at h; subst h; have := ih h2; simp; omega
    | none =>
      rw [h2] at h
      by_cases hx : x.1 = p
      · simp [hx] at h; subst h; simp
      · simp [hx] at h
theorem last_of_ix {P : List Wr} {p : Nat} : last P p = (lastIx P p).bind fun i => (P[i]?).map (·.2) := by
  induction P with
  | nil => rfl
  | cons x P ih =>
    simp only [last, lastIx, ih]
    cases h : lastIx P p with
    | some i => have := lastIx_lt h; simp [this]
    | none => by_cases hx : x.1 = p <;> simp [hx]
theorem last_some_ix {P : List Wr} {p i : Nat} (h : lastIx P p = some i) : last P p = (P[i]?).map (·.2) := by rw [last_of_ix, h]; rfl
theorem last_none_ix {P : List Wr} {p : Nat} (h : lastIx P p = none) : last P p = none := by rw [last_of_ix, h]; rfl

/-- a disk: durable pages, pending writes, whether it records, what it has recorded -/
structure Ds where
  dur : List Str
  pend : List Wr
  rc : Bool
  recd : List Op
/-- all writes go to pages of the disk, and are a page long -/
def Ok (dur : List Str) (pend : List Wr) : Prop := ∀ x ∈ pend, x.1 < dur.length ∧ x.2.length = 512

/-- what a page holds, pending writes counted -/
def cont (dur : List Str) (pend : List Wr) (p : Nat) : Str := (last pend p).getD (dur.getD p [])
def image (dur : List Str) (pend : List Wr) : List Str := (List.range dur.length).map (cont dur pend)
def read (dur : List Str) (pend : List Wr) (p : Int) : Str × Int :=
  if p < 0 ∨ (dur.length : Int) ≤ p then ([], 2) else if cont dur pend p.toNat = unread then ([], 21) else (cont dur pend p.toNat, 0)
def wErr (dur : List Str) (p : Int) (x : Str) : Int := if p < 0 ∨ (dur.length : Int) ≤ p then 2 else if x.length = 512 then 0 else 1
def wPend (dur : List Str) (pend : List Wr) (p : Int) (x : Str) : List Wr := if wErr dur p x = 0 then pend ++ [(p.toNat, x)] else pend
def note (S : Ds) (o : Op) : List Op := if S.rc then S.recd ++ [o] else S.recd
def write (S : Ds) (p : Int) (x : Str) : Ds := if wErr S.dur p x = 0 then { S with pend := S.pend ++ [(p.toNat, x)], recd := note S ⟨p, x, false⟩ } else S
def put (d : List Str) (x : Wr) : List Str := d.set x.1 x.2
def syncD (dur : List Str) (pend : List Wr) : List Str := pend.foldl put dur
def sync (S : Ds) : Ds := { S with dur := syncD S.dur S.pend, pend := [], recd := note S ⟨0, [], true⟩ }
def choice (cs : List Int) (i : Nat) : Int := if cs.length = 0 then 0 else (cs.getD (i % cs.length) 0) % 3
def put3 (c : Int) (d : List Str) (x : Wr) : List Str := if c = 1 then d.set x.1 x.2 else if c = 2 then d.set x.1 unread else d
def crashD (cs : List Int) : Nat → List Wr → List Str → List Str
  | _, [], d => d
  | i, x :: P, d => crashD cs (i + 1) P (put3 (choice cs i) d x)
def crash (S : Ds) (cs : List Int) : Ds := { S with dur := crashD cs 0 S.pend S.dur, pend := [] }
def clone (S : Ds) : Ds := { S with rc := false, recd := [] }

theorem put3_length (c : Int) (d : List Str) (x : Wr) : (put3 c d x).length = d.length := by
  unfold put3
  by_cases h1 : c = 1
  · simp [h1]
  · by_cases h2 : c = 2 <;> simp [h1, h2]
theorem crashD_length (cs : List Int) : ∀ (P : List Wr) (i : Nat) (d : List Str), (crashD cs i P d).length = d.length := by
  intro P
  induction P with
  | nil => intro i d; rfl
  | cons x P ih => intro i d; rw [crashD, ih, put3_length]
theorem crashD_snoc (cs : List Int) : ∀ (P : List Wr) (x : Wr) (i : Nat) (d : List Str), crashD cs i (P ++ [x]) d = put3 (choice cs (i + P.length)) (crashD cs i P d) x := by
  intro P
  induction P with
  | nil => intro x i d; simp [crashD]
  | cons y P ih => intro x i d; simp only [List.cons_append, crashD, ih, List.length_cons]; congr 2; omega
theorem syncD_length (P : List Wr) : ∀ (d : List Str), (syncD d P).length = d.length := by
  induction P with
  | nil => intro d; rfl
  | cons x P ih => intro d; simp only [syncD, List.foldl_cons] at ih ⊢; rw [ih]; simp [put]
theorem syncD_snoc (d : List Str) (P : List Wr) (x : Wr) : syncD d (P ++ [x]) = (syncD d P).set x.1 x.2 := by simp [syncD, put]
theorem choice_one (i : Nat) : choice [1] i = 1 := by simp [choice, Nat.mod_one]
theorem crash_one : ∀ (P : List Wr) (i : Nat) (d : List Str), crashD [1] i P d = syncD d P := by
  intro P
  induction P with
  | nil => intro i d; rfl
  | cons x P ih => intro i d; rw [crashD, ih]; simp [syncD, put3, choice_one, put]
theorem last_len {dur : List Str} {pend : List Wr} (h : Ok dur pend) {p : Nat} {x : Str} (hl : last pend p = some x) : x.length = 512 := by
  cases hi : lastIx pend p with
  | none => rw [last_none_ix hi] at hl; cases hl
  | some i =>
    rw [last_some_ix hi] at hl
    have hlt := lastIx_lt hi
    rw [List.getElem?_eq_getElem hlt] at hl
    simp at hl; subst hl
    exact (h _ (List.getElem_mem hlt)).2

/-! ### the map of the last writes -/
/-- the map D tells of each page the index of its last write -/
def LatOk {H : Type} (D : DataW H) (P : List Wr) : Prop :=
  Maps.IsMap D ∧ ∀ p : Nat, (p : Int) ≤ 9223372036854775807 → Maps.has D (.int .i64 p) = (lastIx P p).isSome ∧ ∀ z, D.atKey (.int .i64 p) z = match lastIx P p with
    | some i => .lit (.int .i64 i)
    | none => z
theorem latOk_nil {H : Type} : LatOk (.map [] : DataW H) [] := ⟨Maps.isMap_empty, fun p _ => ⟨rfl, fun z => rfl⟩⟩
theorem isKey (p : Int) : WideAt.IsKeyLit (.int .i64 p) := by simp [WideAt.IsKeyLit]
theorem LatOk.put {H : Type} {D : DataW H} {P : List Wr} (h : LatOk D P) (p : Nat) (x : Str) : LatOk (D.put (.int .i64 p) (.lit (.int .i64 P.length))) (P ++ [(p, x)]) := by
  refine ⟨h.1.put _ _, fun q hq => ?_⟩
  rw [lastIx_snoc]
  by_cases e : p = q
  · subst e
    exact ⟨by simp [Maps.has_put_same h.1 (isKey _)], fun z => by simp [Maps.atKey_put_same h.1 (isKey _)]⟩
  · have hne : (Lit.int .i64 (q : Int)) ≠ .int .i64 (p : Int) := by
      intro he; injection he with _ he; exact e (by omega)
    simp only [e, if_false]
    exact ⟨by rw [Maps.has_put_other hne]; exact (h.2 q hq).1, fun z => by rw [Maps.atKey_put_other hne]; exact (h.2 q hq).2 z⟩
end Go.Proofs.Ytepdfeegklinfaa.Dk
