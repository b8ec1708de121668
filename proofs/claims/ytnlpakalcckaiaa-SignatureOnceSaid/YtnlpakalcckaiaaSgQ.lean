/-
  The reference's bytes of signatures; signatures compared. Conditions: strings of at most 2^40 bytes.
-/
import Derived.Test.YtnlpakalcckaiaaSgP
import Derived.Test.YtnlpakalcckaiaaCdB
import Derived.Test.YtnlpakalcckaiaaMkB
namespace Go.Proofs.Ytnlpakalcckaiaa
set_option linter.unusedVariables false
open Go.RowKit Go.Shelf
attribute [local go_sem] Oper.semAt_some

def samB (i : Int) (C T : List Sg.Str) (j : Int) (D U : List Sg.Str) : Bool := if i = j then (if C = D then decide (T = U) else false) else false
set_option maxRecDepth 20000 in
set_option maxHeartbeats 4000000 in
theorem rsame_spec (i : Int) (C T : List Sg.Str) (A B : Option Addr) (cC cT : Nat) (j : Int) (D U : List Sg.Str) (A' B' : Option Addr) (cD cU : Nat) (w : World) (hC : Rd w A (strs C)) (hT : Rd w B (strs T)) (hD : Rd w A' (strs D)) (hU : Rd w B' (strs U)) (h1 : C.length ≤ maxLen) (h2 : T.length ≤ maxLen) (h3 : D.length ≤ maxLen) (h4 : U.length ≤ maxLen) :
    Calls Try.prog 17 #[.agg #[.int .i64 i, .slice A C.length cC, .slice B T.length cT], .agg #[.int .i64 j, .slice A' D.length cD, .slice B' U.length cU]] w fun e w' => e = .returned (.bool (samB i C T j D U)) ∧ Below w.heap.size w w' := by
  obtain ⟨W0, hW0⟩ : ∃ W0, w.alloc (.cells #[.int .i64 i, .slice A C.length cC, .slice B T.length cT] 33) = W0 := ⟨_, rfl⟩
  have hs0 : W0.heap.size = w.heap.size + 1 := by rw [← hW0]; simp
  obtain ⟨W, hW⟩ : ∃ W, W0.alloc (.cells #[.int .i64 j, .slice A' D.length cD, .slice B' U.length cU] 33) = W := ⟨_, rfl⟩
  have b0 : Below w.heap.size w W := by rw [← hW, ← hW0]; exact ((Below.refl _ w).alloc (Nat.le_refl _) _).alloc (by simp) _
  have bk : Blk W w.heap.size 33 #[.int .i64 i, .slice A C.length cC, .slice B T.length cT] := by rw [← hW, ← hW0]; exact (Blk.new w _ _).alloc _
  have br : Blk W (w.heap.size + 1) 33 #[.int .i64 j, .slice A' D.length cD, .slice B' U.length cU] := by rw [← hW, ← hs0]; exact Blk.new W0 _ _
  have hm : maxLen ≤ 9223372036854775807 := by decide
  have kc := samestr_spec A A' C D cC cD W (hC.below b0) (hD.below b0) (Nat.le_trans h1 hm) (Nat.le_trans h3 hm)
  have kt := fun n => samestr_spec B B' T U cT cU (W.drewN n) ((hT.below b0).below (belowN (Below.refl _ _) n)) ((hU.below b0).below (belowN (Below.refl _ _) n)) (Nat.le_trans h2 hm) (Nat.le_trans h4 hm)
  have c0 := bk.cell 0
  have c1 := bk.cell 1
  have c2 := bk.cell 2
  have d0 := br.cell 0
  have d1 := br.cell 1
  have d2 := br.cell 2
  have hcn : ∀ n, (W.drewN n).cell? ⟨w.heap.size, 2, none⟩ = some (.slice B T.length cT) ∧ (W.drewN n).cell? ⟨w.heap.size + 1, 2, none⟩ = some (.slice B' U.length cU) := fun n => ⟨c2, d2⟩
  have HB := Lib.hid (And.intro b0 hcn)
  clear b0 bk br hC hT hD hU hcn h1 h2 h3 h4
  unfold samB
  by_cases e1 : i = j
  · subst e1
    rw [if_pos rfl]
    by_cases e2 : C = D
    · rw [if_pos e2]
      have e2' : decide (C = D) = true := decide_eq_true e2
      rw [e2'] at kc
      generalize decide (T = U) = q at kt ⊢
      clear e2 e2'
      go_enter Try.func17, Try.ntmps17
      go_wp2_with fail
      refine kc.mono ?_
      rintro e w1 ⟨rfl, n, rfl⟩
      obtain ⟨x1, x2⟩ := HB.out.2 n
      clear kc c0 c1 c2 d0 d1 d2
      go_wp2_with fail
      refine (kt n).mono ?_
      rintro e w2 ⟨rfl, m, rfl⟩
      go_wp2
      go_ret
      exact ⟨rfl, belowN HB.out.1 _⟩
    · rw [if_neg e2]
      have e2' : decide (C = D) = false := decide_eq_false e2
      rw [e2'] at kc
      clear e2 e2' kt
      go_enter Try.func17, Try.ntmps17
      go_wp2_with fail
      refine kc.mono ?_
      rintro e w1 ⟨rfl, n, rfl⟩
      go_wp2
      go_ret
      exact ⟨rfl, belowN HB.out.1 n⟩
  · rw [if_neg e1]
    have e1' : (i == j) = false := by rw [beq_eq_false_iff_ne]; exact e1
    clear kc kt
    go_enter Try.func17, Try.ntmps17
    go_wp2
    go_ret
    exact ⟨rfl, HB.out.1⟩
theorem results_ctt {P : Program} {fn : Func} {p u v : Tmp} {ty : TypeId} (h : fn.results = #[.cell p ty, .tmp u, .tmp v]) (tmps : Array Value) (w : World) (g : Nat) (t : TypeId) (cs : Array Value) (fr : Nat × Nat) (d : TypeDesc)
    (hp : tmps.getD p undef = .pointer (some ⟨g, 0, none⟩)) (hg : w.heap[g]? = some (.cells cs t fr)) (hu : P.underlying ty = some d) (hd : (match d with | .struct _ | .array _ _ => true | _ => false) = true) (hi : (P.info? ty).map (·.size) = some cs.size) :
    (results fn tmps).run P w = .ok (.tuple #[.agg cs, tmps.getD u undef, tmps.getD v undef]) w := by
  have hp' : tmps[p]?.getD undef = .pointer (some ⟨g, 0, none⟩) := by simpa using hp
  simp [results, h, hp', asAddr, run_loadVar_row w g t ty cs fr d hg hu hd hi]
def sgRd (s : Sg.Str) (at_ : Nat) : Option (Nat × List Sg.Str × List Sg.Str × Nat) :=
  match Cd.readUint s at_ with
  | none => none
  | some (i, a1) => match Cd.readTexts s a1 with
    | none => none
    | some (C, a2) => match Cd.readTexts s a2 with
      | none => none
      | some (T, a3) => if okB i C T = true then some (i, C, T, a3) else none
def RdP (o : Option (Nat × List Sg.Str × List Sg.Str × Nat)) (w : World) (e : Ending) (w' : World) : Prop :=
  match o with
  | some (i, C, T, a) => ∃ x y, e = .returned (.tuple #[.agg #[.int .i64 (i : Int), x, y], .int .i64 (a : Int), .bool true]) ∧ St w.heap.size w w' [ownR 9 1 x C.length (strs C), ownR 9 1 y T.length (strs T)]
  | none => e = .returned (.tuple #[.agg #[.int .i64 0, .slice none 0 0, .slice none 0 0], .int .i64 0, .bool false]) ∧ Below w.heap.size w w'
def rdcR (s : Sg.Str) : (Int × List Sg.Str × List Sg.Str) × Int :=
  match sgRd s 0 with
  | some (i, C, T, a) => if a = s.length then (((i : Int), C, T), 0) else ((0, [], []), 9)
  | none => ((0, [], []), 9)
theorem sgRd_le {s : Sg.Str} {at_ i a : Nat} {C T : List Sg.Str} (h : sgRd s at_ = some (i, C, T, a)) (ha : at_ ≤ s.length) : a ≤ s.length := by
  unfold sgRd at h
  cases h1 : Cd.readUint s at_ with
  | none => rw [h1] at h; cases h
  | some p =>
    obtain ⟨j, a1⟩ := p
    rw [h1] at h
    dsimp only at h
    cases h2 : Cd.readTexts s a1 with
    | none => rw [h2] at h; cases h
    | some p =>
      obtain ⟨C', a2⟩ := p
      rw [h2] at h
      dsimp only at h
      cases h3 : Cd.readTexts s a2 with
      | none => rw [h3] at h; cases h
      | some p =>
        obtain ⟨T', a3⟩ := p
        rw [h3] at h
        dsimp only at h
        split at h
        · cases h
          exact Cd.readTexts_le h3 (Cd.readTexts_le h2 (Cd.readUint_le h1 ha).2.1)
        · cases h
theorem textsR_err (s : Sg.Str) (a : Nat) : textsR s a 9 = ([], a, 9) := by unfold textsR; rw [if_pos (by decide)]
theorem endR_err (s : Sg.Str) (a : Nat) : endR s a 9 = 9 := by unfold endR; rw [if_neg (fun h => absurd h.1 (by decide))]
/-- both ways of reading agree -/
theorem rdcR_eq (s : Sg.Str) : rdcR s = decR s := by
  unfold rdcR decR sgRd
  cases h1 : Cd.readUint s 0 with
  | none =>
    have e1 : uintR s 0 0 = (0, 0, 9) := by unfold uintR; rw [if_neg (by simp), h1]
    simp only [e1, textsR_err, endR_err]
    rw [if_neg (by decide)]
  | some p =>
    obtain ⟨j, a1⟩ := p
    have e1 : uintR s 0 0 = ((j : Int), a1, 0) := by unfold uintR; rw [if_neg (by simp), h1]
    simp only [e1]
    cases h2 : Cd.readTexts s a1 with
    | none =>
      have e2 : textsR s a1 0 = ([], a1, 9) := by unfold textsR; rw [if_neg (by simp), h2]
      simp only [e2, textsR_err, endR_err]
      rw [if_neg (by decide)]
    | some p =>
      obtain ⟨C, a2⟩ := p
      have e2 : textsR s a1 0 = (C, a2, 0) := by unfold textsR; rw [if_neg (by simp), h2]
      simp only [e2]
      cases h3 : Cd.readTexts s a2 with
      | none =>
        have e3 : textsR s a2 0 = ([], a2, 9) := by unfold textsR; rw [if_neg (by simp), h3]
        simp only [e3, endR_err]
        rw [if_neg (by decide)]
      | some p =>
        obtain ⟨T, a3⟩ := p
        have e3 : textsR s a2 0 = (T, a3, 0) := by unfold textsR; rw [if_neg (by simp), h3]
        have hl : a3 ≤ s.length := Cd.readTexts_le h3 (Cd.readTexts_le h2 (Cd.readUint_le h1 (Nat.zero_le _)).2.1)
        simp only [e3]
        unfold endR
        by_cases ha : a3 = s.length
        · rw [if_neg (c := (0 : Int) = 0 ∧ a3 < s.length) (fun h => by omega), if_pos rfl]
          cases okB (j : Int) C T
          · rfl
          · simp only [if_true]
            rw [if_pos ha]
        · rw [if_pos (c := (0 : Int) = 0 ∧ a3 < s.length) ⟨rfl, by omega⟩]
          cases okB (j : Int) C T <;> simp [ha]
end Go.Proofs.Ytnlpakalcckaiaa
