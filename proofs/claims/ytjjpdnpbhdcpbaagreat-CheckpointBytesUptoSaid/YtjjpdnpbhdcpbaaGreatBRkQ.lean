/-
  Checkpoints: what is decoded is written again as the same bytes, in plain mathematics. Conditions: none.
-/
import Derived.Test.YtjjpdnpbhdcpbaaGreatBRkP
import Derived.Test.YtjjpdnpbhdcpbaaGreatQPe
namespace Go.Proofs.YtjjpdnpbhdcpbaaGreat
set_option linter.unusedVariables false
open Go.RowKit Go.Shelf
def CkV.few (x : CkV) : Prop := (∀ y ∈ x.L, RowFew y) ∧ (x.A = none → x.C.length = 0 ∧ x.a = 0) ∧ (x.B = none → x.T.length = 0 ∧ x.b = 0) ∧ weight x.C + weight x.T ≤ 1099511627776
def CkV.i63 (x : CkV) : Prop := x.i < 9223372036854775808 ∧ ∀ y ∈ x.L, y.i < 9223372036854775808
theorem sgRd_inv {s : Sg.Str} {a i a' : Nat} {C T : List Sg.Str} (h : sgRd s a = some (i, C, T, a')) : s.drop a = encS (i : Int) C T ++ s.drop a' ∧ okB (i : Int) C T = true ∧ i < 9223372036854775808 := by
 unfold sgRd at h
 cases h1 : Cd.readUint s a with
 | none => rw [h1] at h; cases h
 | some p =>
   obtain ⟨j, a1⟩ := p
   rw [h1] at h
   dsimp only at h
   cases h2 : Cd.readTexts s a1 with
   | none => rw [h2] at h; cases h
   | some p =>
     obtain ⟨C', a2⟩ := p
     rw [h2] at h
     dsimp only at h
     cases h3 : Cd.readTexts s a2 with
     | none => rw [h3] at h; cases h
     | some p =>
       obtain ⟨T', a3⟩ := p
       rw [h3] at h
       dsimp only at h
       split at h
       ·rename_i ho
        cases h
        obtain ⟨u1, _, u3⟩ := Cd.readUint_inv h1
        obtain ⟨v1, _⟩ := Cd.readTexts_inv h2
        obtain ⟨w1, _⟩ := Cd.readTexts_inv h3
        refine ⟨?_, ho, u3⟩
        rw [u1, v1, w1]
        unfold encS
        rw [Int.toNat_natCast]
        simp only [List.append_assoc]
       ·cases h
theorem rkRows_inv {s : Sg.Str} : ∀ (n : Nat) (acc : List SgRow) (a : Nat) {L : List SgRow} {a' : Nat}, rkRows s n acc a = some (L, a') → ∃ M, L = acc ++ M ∧ M.length = n ∧ s.drop a = rowsB M ++ s.drop a' ∧ ∀ x ∈ M, RowEnc x
 | 0, acc, a, L, a', h => by
   cases h
   exact ⟨[], (List.append_nil _).symm, rfl, rfl, fun x hx => by cases hx⟩
 | n + 1, acc, a, L, a', h => by
   unfold rkRows at h
   cases h1 : Cd.readText s a with
   | none => rw [h1] at h; cases h
   | some p =>
     obtain ⟨k, a1⟩ := p
     rw [h1] at h
     dsimp only at h
     by_cases hk : k.length ≤ 65536
     ·rw [if_pos hk] at h
      cases h2 : sgRd s a1 with
      | none => rw [h2] at h; cases h
      | some p =>
        obtain ⟨i, C, T, a2⟩ := p
        rw [h2] at h
        dsimp only at h
        obtain ⟨M, e1, e2, e3, e4⟩ := rkRows_inv n _ a2 h
        obtain ⟨t1, _⟩ := Cd.readText_inv h1
        obtain ⟨g1, g2, g3⟩ := sgRd_inv h2
        refine ⟨rowOf k ((i : Int), C, T) :: M, ?_, by rw [List.length_cons, e2], ?_, ?_⟩
        ·rw [e1, List.append_assoc]
         rfl
        ·rw [t1, g1, e3, rowsB_cons]
         show _ = Cd.text k ++ encS (i : Int) C T ++ rowsB M ++ s.drop a'
         simp only [List.append_assoc]
        ·intro x hx
         rcases List.mem_cons.1 hx with rfl | hx
         ·exact ⟨g2, hk, by show (i : Int) < _; omega⟩
         ·exact e4 x hx
     ·rw [if_neg hk] at h
      cases h
theorem ckDec_inv (s : Sg.Str) : ckDec s = (noCk, 9) ∨ ∃ (o : Sg.Str) (z : Int) (r : Sg.Str) (i : Int) (C T : List Sg.Str) (L : List SgRow), ckDec s = (ckP o z r i C T L, 0) ∧ ckEnc o z r i C T L = (s, 0) := by
 rw [← rckDec_eq]
 unfold rckDec
 cases h1 : Cd.readText s 0 with
 | none => exact .inl rfl
 | some p =>
   obtain ⟨o, a1⟩ := p
   dsimp only
   cases h2 : Cd.readUint s a1 with
   | none => exact .inl rfl
   | some p =>
     obtain ⟨z, a2⟩ := p
     dsimp only
     cases h3 : Cd.readText s a2 with
     | none => exact .inl rfl
     | some p =>
       obtain ⟨r, a3⟩ := p
       dsimp only
       cases h4 : sgRd s a3 with
       | none => exact .inl rfl
       | some p =>
         obtain ⟨i, C, T, a4⟩ := p
         dsimp only
         cases h5 : Cd.readUint s a4 with
         | none => exact .inl rfl
         | some p =>
           obtain ⟨n, a5⟩ := p
           dsimp only
           by_cases hn : n ≤ 1024
           ·rw [if_pos hn]
            unfold rkTail
            cases h6 : rkRows s n [] a5 with
            | none => exact .inl rfl
            | some p =>
              obtain ⟨L, a6⟩ := p
              dsimp only
              by_cases ha : a6 = s.length
              ·rw [if_pos ha]
               cases hh : headB o (z : Int) r with
               | false => exact .inl rfl
               | true =>
                 refine .inr ⟨o, z, r, i, C, T, L, rfl, ?_⟩
                 obtain ⟨M, e1, e2, e3, e4⟩ := rkRows_inv n [] a5 h6
                 rw [List.nil_append] at e1
                 subst e1
                 obtain ⟨t1, _⟩ := Cd.readText_inv h1
                 obtain ⟨t2, _, _⟩ := Cd.readUint_inv h2
                 obtain ⟨t3, _⟩ := Cd.readText_inv h3
                 obtain ⟨t4, ho, _⟩ := sgRd_inv h4
                 obtain ⟨t5, _, _⟩ := Cd.readUint_inv h5
                 have hd : s.drop a6 = [] := List.drop_eq_nil_of_le (by omega)
                 rw [ckEnc_ok o z r i C T L ho hh (by omega) e4]
                 rw [hd, List.append_nil] at e3
                 rw [List.drop_zero, t2, t3, t4, t5, e3, ← e2] at t1
                 rw [t1]
                 unfold headS
                 rw [Int.toNat_natCast]
                 simp only [List.append_assoc]
              ·rw [if_neg ha]
               exact .inl rfl
           ·rw [if_neg hn]
            exact .inl rfl
end Go.Proofs.YtjjpdnpbhdcpbaaGreat
