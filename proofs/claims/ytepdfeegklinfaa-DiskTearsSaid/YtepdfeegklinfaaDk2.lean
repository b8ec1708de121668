/-
  A disk and its reference through the rounds of a law: lengths, the reference's variable. Conditions: none.
-/
import Derived.Test.YtepdfeegklinfaaDkV
import Derived.Test.YtepdfeegklinfaaDkAw
namespace Go.Proofs.Ytepdfeegklinfaa
set_option linter.unusedVariables false
open Go.RowKit Go.ChangeMaps Go.MapKept

theorem note_len (S : Dk.Ds) (o : Dk.Op) : (Dk.note S o).length ≤ S.recd.length + 1 := by unfold Dk.note; split <;> simp
theorem write_len (S : Dk.Ds) (p : Int) (x : Dk.Str) : (Dk.write S p x).dur = S.dur ∧ (Dk.write S p x).pend.length ≤ S.pend.length + 1 ∧ (Dk.write S p x).recd.length ≤ S.recd.length + 1 := by
  unfold Dk.write
  split
  · exact ⟨rfl, by simp, note_len _ _⟩
  · exact ⟨rfl, by omega, by omega⟩
theorem stepS_len (S : Dk.Ds) (a : Ac) : (stepS S a).dur.length = S.dur.length ∧ (stepS S a).pend.length ≤ S.pend.length + 1 ∧ (stepS S a).recd.length ≤ S.recd.length + 1 := by
  unfold stepS
  split
  · exact ⟨Dk.crashD_length _ _ _ _, by simp [Dk.crash], by simp [Dk.crash]⟩
  · split
    · exact ⟨Dk.syncD_length _ _, by simp [Dk.sync], note_len _ _⟩
    · obtain ⟨h1, h2, h3⟩ := write_len S a.op.page a.op.data
      exact ⟨by rw [h1], h2, h3⟩
/-- the reference's variable is written -/
theorem Two.put {w : World} {F G : Nat → Prop} {d B n m c e : Nat} {t : TypeId} {a b : Option Addr} {v u0 u1 : Value} {S : Dk.Ds} (h : Two w F G d v S) (hb : Blk w B t #[.slice a n c, .slice b m e]) (hF : ¬ F B) (hG : ¬ G B) :
    Two ((w.setCell ⟨B, 0, none⟩ u0).setCell ⟨B, 1, none⟩ u1) F G d v S := by
  have m1 := mod_set w B 0 u0
  have m2 := mod_set (w.setCell ⟨B, 0, none⟩ u0) B 1 u1
  have hm : Mod (fun k => k = B) w ((w.setCell ⟨B, 0, none⟩ u0).setCell ⟨B, 1, none⟩ u1) := m1.trans m2
  exact ⟨h.D.mod hm (fun k hk (e : k = B) => hF (e ▸ hk)), h.R.mod hm h.I (fun k (e : k = B) hg => hG (e ▸ hg)), h.I, h.X, fun k hg => by have := h.L k hg; simpa [World.setCell] using this⟩
theorem Two.under {w w' : World} {F G : Nat → Prop} {d : Nat} {v : Value} {S : Dk.Ds} (h : Two w F G d v S) (hb : Below w.heap.size w w') : Two w' F G d v S :=
  ⟨h.D.under hb, h.R.below hb, h.I, h.X, fun k hg => Nat.lt_of_lt_of_le (h.L k hg) hb.size⟩
/-- the state of a law's round: the disk d, the reference in the variable at B -/
def Rnd (lo n B d k : Nat) (w0 w : World) (S : Dk.Ds) : Prop :=
  ∃ F G A1 c1 A2 c2, Two w F G d (.agg #[.slice A1 S.dur.length c1, .slice A2 S.pend.length c2]) S ∧ Blk w B 32 #[.slice A1 S.dur.length c1, .slice A2 S.pend.length c2] ∧ ¬ F B ∧ ¬ G B ∧ (∀ k, F k → lo ≤ k) ∧ Below lo w0 w ∧ lo ≤ B ∧ S.dur.length = n ∧ S.pend.length ≤ k ∧ S.recd.length ≤ k
theorem Rnd.under {lo n B d k : Nat} {w0 w w' : World} {S : Dk.Ds} (h : Rnd lo n B d k w0 w S) (hb : Below w.heap.size w w') : Rnd lo n B d k w0 w' S := by
  obtain ⟨F, G, A1, c1, A2, c2, T, b, hF, hG, hlo, hbe, hB, hn, hp, hr⟩ := h
  have hl := b.lt
  exact ⟨F, G, A1, c1, A2, c2, T.under hb, b.below hb, hF, hG, hlo, hbe.trans (hb.mono (by omega)), hB, hn, hp, hr⟩
theorem rnd_next {lo n B d k : Nat} {w0 W1 w2 W3 : World} {F G F' G' : Nat → Prop} {S' : Dk.Ds} {a b A1 A2 : Option Addr} {x1 x2 y1 y2 c1 c2 : Nat} (hT : Two w2 F' G' d (.agg #[.slice A1 S'.dur.length c1, .slice A2 S'.pend.length c2]) S') (hb : Blk W1 B 32 #[.slice a x1 y1, .slice b x2 y2])
    (hFB : ¬ F B) (hGB : ¬ G B) (hlo : ∀ k, F k → lo ≤ k) (hbe : Below lo w0 W1) (hB : lo ≤ B) (hW : lo ≤ W1.heap.size) (hm : Mod F W1 w2) (hF : ∀ k, F' k → F k ∨ W1.heap.size ≤ k) (hG : ∀ k, G' k → G k ∨ W1.heap.size ≤ k) (h3 : Below w2.heap.size w2 W3)
    (hn : S'.dur.length = n) (hp : S'.pend.length ≤ k) (hr : S'.recd.length ≤ k) :
    Rnd lo n B d k w0 ((W3.setCell ⟨B, 0, none⟩ (.slice A1 S'.dur.length c1)).setCell ⟨B, 1, none⟩ (.slice A2 S'.pend.length c2)) S' := by
  have hBl := hb.lt
  have hb2 := hb.mod hm hFB
  have hb3 := hb2.below h3
  have hFB' : ¬ F' B := fun h => by rcases hF _ h with h | h; exact hFB h; omega
  have hGB' : ¬ G' B := fun h => by rcases hG _ h with h | h; exact hGB h; omega
  have s2 := hm.size
  have hbe2 : Below lo w0 w2 := hbe.trans (hm.below hW (fun i hi hf => by have := hlo i hf; omega))
  refine ⟨F', G', A1, c1, A2, c2, (hT.under h3).put hb3 hFB' hGB', ?_, hFB', hGB', fun k hk => ?_, ?_, hB, hn, hp, hr⟩
  · have := (hb3.set_ 0 (.slice A1 S'.dur.length c1)).set_ 1 (.slice A2 S'.pend.length c2)
    simpa using this
  · rcases hF k hk with h | h
    · exact hlo k h
    · omega
  · exact ((hbe2.trans (h3.mono (by omega))).setCell (p := ⟨B, 0, none⟩) hB _).setCell (p := ⟨B, 1, none⟩) hB _
end Go.Proofs.Ytepdfeegklinfaa
