/-
  Disks in blocks from a bound on: one disk (Dk1), a disk and another one apart from it (Du). Conditions: as the functions' own.
-/
import Derived.Test.YtepdfeegklinfaaDkT
namespace Go.Proofs.Ytepdfeegklinfaa
set_option linter.unusedVariables false
open Go.RowKit Go.ChangeMaps Go.MapKept

def Dk1 (w : World) (lo d : Nat) (S : Dk.Ds) : Prop := ∃ F, Dsk w F d S ∧ ∀ k, F k → lo ≤ k
/-- a disk and another one -/
def Du (w : World) (lo d : Nat) (S : Dk.Ds) (c : Nat) (T : Dk.Ds) : Prop := ∃ F H, Dsk w F d S ∧ Dsk w H c T ∧ (∀ k, F k → lo ≤ k ∧ ¬ H k) ∧ ∀ k, H k → lo ≤ k
theorem Du.one {w : World} {lo d c : Nat} {S T : Dk.Ds} (h : Du w lo d S c T) : Dk1 w lo d S := by
  obtain ⟨F, H, a, b, x, y⟩ := h
  exact ⟨F, a, fun k hk => (x k hk).1⟩
theorem Du.two {w : World} {lo d c : Nat} {S T : Dk.Ds} (h : Du w lo d S c T) : Dk1 w lo c T := by
  obtain ⟨F, H, a, b, x, y⟩ := h
  exact ⟨H, b, y⟩
theorem Du.swap {w : World} {lo d c : Nat} {S T : Dk.Ds} (h : Du w lo d S c T) : Du w lo c T d S := by
  obtain ⟨F, H, a, b, x, y⟩ := h
  exact ⟨H, F, b, a, fun k hk => ⟨y k hk, fun hf => (x k hf).2 hk⟩, fun k hk => (x k hk).1⟩
theorem Dk1.under {w w' : World} {lo d : Nat} {S : Dk.Ds} (h : Dk1 w lo d S) (hb : Below w.heap.size w w') : Dk1 w' lo d S := by
  obtain ⟨F, a, x⟩ := h
  exact ⟨F, a.under hb, x⟩
theorem Du.under {w w' : World} {lo d c : Nat} {S T : Dk.Ds} (h : Du w lo d S c T) (hb : Below w.heap.size w w') : Du w' lo d S c T := by
  obtain ⟨F, H, a, b, x, y⟩ := h
  exact ⟨F, H, a.under hb, b.under hb, x, y⟩
theorem dskP_1 {F : Nat → Prop} {d lo : Nat} {S : Dk.Ds} {v : Value} {w w' : World} {e : Ending} (h : DskP F d S v w e w') (hF : ∀ k, F k → lo ≤ k) (hl : lo ≤ w.heap.size) : e = .returned v ∧ Dk1 w' lo d S ∧ Below lo w w' := by
  obtain ⟨he, D, m⟩ := h
  refine ⟨he, ⟨_, D, fun k hk => ?_⟩, m.below hl (fun i hi hf => by have := hF i hf; omega)⟩
  rcases hk with hk | hk
  · exact hF k hk
  · omega
theorem dskP_2 {F H : Nat → Prop} {d c lo : Nat} {S T : Dk.Ds} {v : Value} {w w' : World} {e : Ending} (h : DskP F d S v w e w') (h2 : Dsk w H c T) (hF : ∀ k, F k → lo ≤ k ∧ ¬ H k) (hH : ∀ k, H k → lo ≤ k) (hl : lo ≤ w.heap.size) : e = .returned v ∧ Du w' lo d S c T ∧ Below lo w w' := by
  obtain ⟨he, D, m⟩ := h
  have hb := h2.fb
  refine ⟨he, ⟨_, H, D, h2.mod m (fun k hk hf => (hF k hf).2 hk), fun k hk => ?_, hH⟩, m.below hl (fun i hi hf => by have := (hF i hf).1; omega)⟩
  rcases hk with hk | hk
  · exact hF k hk
  · exact ⟨by omega, fun hq => by have := hb k hq; omega⟩
theorem d1_write {w : World} {lo d : Nat} {S : Dk.Ds} (h : Dk1 w lo d S) (p : Int) (x : Dk.Str) (hl : lo ≤ w.heap.size) (hR : S.recd.length ≤ 1099511627776) (hP : S.pend.length ≤ 1099511627776) (hx : x.length ≤ 9223372036854775807) :
    Calls Try.prog 27 #[.pointer (some ⟨d, 0, none⟩), .int .i64 p, .string ⟨x.toArray⟩] w fun e w' => e = .returned (.int .i64 (Dk.wErr S.dur p x)) ∧ Dk1 w' lo d (Dk.write S p x) ∧ Below lo w w' := by
  obtain ⟨F, D, hF⟩ := h
  exact (write_spec F d S p x w D hR hP hx).mono fun e w' h => dskP_1 h hF hl
theorem d2_write {w : World} {lo d c : Nat} {S T : Dk.Ds} (h : Du w lo d S c T) (p : Int) (x : Dk.Str) (hl : lo ≤ w.heap.size) (hR : S.recd.length ≤ 1099511627776) (hP : S.pend.length ≤ 1099511627776) (hx : x.length ≤ 9223372036854775807) :
    Calls Try.prog 27 #[.pointer (some ⟨d, 0, none⟩), .int .i64 p, .string ⟨x.toArray⟩] w fun e w' => e = .returned (.int .i64 (Dk.wErr S.dur p x)) ∧ Du w' lo d (Dk.write S p x) c T ∧ Below lo w w' := by
  obtain ⟨F, H, D, D2, hF, hH⟩ := h
  exact (write_spec F d S p x w D hR hP hx).mono fun e w' h => dskP_2 h D2 hF hH hl
theorem d1_sync {w : World} {lo d : Nat} {S : Dk.Ds} (h : Dk1 w lo d S) (hl : lo ≤ w.heap.size) (hR : S.recd.length ≤ 1099511627776) (hP : S.pend.length ≤ 1099511627776) :
    Calls Try.prog 25 #[.pointer (some ⟨d, 0, none⟩)] w fun e w' => e = .returned (.tuple #[]) ∧ Dk1 w' lo d (Dk.sync S) ∧ Below lo w w' := by
  obtain ⟨F, D, hF⟩ := h
  exact (sync_spec F d S w D hR hP).mono fun e w' h => dskP_1 h hF hl
theorem d2_sync {w : World} {lo d c : Nat} {S T : Dk.Ds} (h : Du w lo d S c T) (hl : lo ≤ w.heap.size) (hR : S.recd.length ≤ 1099511627776) (hP : S.pend.length ≤ 1099511627776) :
    Calls Try.prog 25 #[.pointer (some ⟨d, 0, none⟩)] w fun e w' => e = .returned (.tuple #[]) ∧ Du w' lo d (Dk.sync S) c T ∧ Below lo w w' := by
  obtain ⟨F, H, D, D2, hF, hH⟩ := h
  exact (sync_spec F d S w D hR hP).mono fun e w' h => dskP_2 h D2 hF hH hl
/-- the choices lie below the bound -/
theorem d1_crash {w : World} {lo d : Nat} {S : Dk.Ds} (h : Dk1 w lo d S) (A : Option Addr) (cs : List Int) (c : Nat) (hl : lo ≤ w.heap.size) (hR : Rd w A (ints cs)) (hcl : cs.length ≤ 9223372036854775807) (hA : cs ≠ [] → ∀ p, A = some p → p.block < lo) (hP : S.pend.length ≤ 1099511627776) :
    Calls Try.prog 24 #[.pointer (some ⟨d, 0, none⟩), .slice A cs.length c] w fun e w' => e = .returned (.tuple #[]) ∧ Dk1 w' lo d (Dk.crash S cs) ∧ Below lo w w' := by
  obtain ⟨F, D, hF⟩ := h
  exact (crash_spec F d S A cs c w D hR hcl (fun hc p hp hf => by have := hA hc p hp; have := hF _ hf; omega) hP).mono fun e w' h => dskP_1 h hF hl
/-- the choices are new: they lie apart from both disks -/
theorem d2_crash {w0 w : World} {lo d c : Nat} {S T : Dk.Ds} (h : Du w0 lo d S c T) (hb : Below w0.heap.size w0 w) (A : Option Addr) (cs : List Int) (cc : Nat) (hl : lo ≤ w0.heap.size) (hR : Rd w A (ints cs)) (hcl : cs.length ≤ 9223372036854775807) (hA : cs ≠ [] → ∀ p, A = some p → p.block < lo ∨ w0.heap.size ≤ p.block) (hP : S.pend.length ≤ 1099511627776) :
    Calls Try.prog 24 #[.pointer (some ⟨d, 0, none⟩), .slice A cs.length cc] w fun e w' => e = .returned (.tuple #[]) ∧ Du w' lo d (Dk.crash S cs) c T ∧ Below lo w w' := by
  obtain ⟨F, H, D, D2, hF, hH⟩ := h
  have hfb := D.fb
  have hs := hb.size
  exact (crash_spec F d S A cs cc w (D.under hb) hR hcl (fun hc p hp hf => by have h1 := hA hc p hp; have h2 := (hF _ hf).1; have h3 := hfb _ hf; omega) hP).mono fun e w' h => dskP_2 h (D2.under hb) hF hH (by omega)
theorem d1_clone {w : World} {lo d : Nat} {S : Dk.Ds} (h : Dk1 w lo d S) (hl : lo ≤ w.heap.size) (hP : S.pend.length ≤ 1099511627776) :
    Calls Try.prog 23 #[.pointer (some ⟨d, 0, none⟩)] w fun e w' => ∃ c, e = .returned (.pointer (some ⟨c, 0, none⟩)) ∧ Du w' lo d S c (Dk.clone S) ∧ Below w.heap.size w w' := by
  obtain ⟨F, D, hF⟩ := h
  have hfb := D.fb
  refine (clone_disk F d S w D hP).mono ?_
  rintro e w' ⟨c, rfl, D2, hb⟩
  exact ⟨c, rfl, ⟨F, _, D.under hb, D2, fun k hk => ⟨hF k hk, fun hq => by have := hfb k hk; omega⟩, fun k hk => by omega⟩, hb⟩
theorem d1_record {w : World} {lo d : Nat} {S : Dk.Ds} (h : Dk1 w lo d S) (t : Bool) (hl : lo ≤ w.heap.size) :
    Calls Try.prog 26 #[.pointer (some ⟨d, 0, none⟩), .bool t] w fun e w' => ∃ A c, e = .returned (.slice A S.recd.length c) ∧ Dk1 w' lo d { S with rc := t, recd := [] } ∧ Below lo w w' := by
  obtain ⟨F, D, hF⟩ := h
  refine (recordOn_spec F d S t w D).mono ?_
  rintro e w' ⟨v, rfl, o, hv, D2, m, hd⟩
  obtain ⟨A, c, rfl, _, _⟩ := own_form o
  exact ⟨A, c, rfl, ⟨_, D2, fun k hk => hF k hk.1⟩, m.below hl (fun i hi (hf : i = d) => by have := hF d hd; omega)⟩
theorem d2_record {w : World} {lo d c : Nat} {S T : Dk.Ds} (h : Du w lo d S c T) (t : Bool) (hl : lo ≤ w.heap.size) :
    Calls Try.prog 26 #[.pointer (some ⟨d, 0, none⟩), .bool t] w fun e w' => ∃ A cc, e = .returned (.slice A S.recd.length cc) ∧ Du w' lo d { S with rc := t, recd := [] } c T ∧ Below lo w w' := by
  obtain ⟨F, H, D, D2, hF, hH⟩ := h
  refine (recordOn_spec F d S t w D).mono ?_
  rintro e w' ⟨v, rfl, o, hv, D3, m, hd⟩
  obtain ⟨A, cc, rfl, _, _⟩ := own_form o
  exact ⟨A, cc, rfl, ⟨_, H, D3, D2.mod m (fun k hk (hf : k = d) => by subst hf; exact (hF k hd).2 hk), fun k hk => hF k hk.1, hH⟩, m.below hl (fun i hi (hf : i = d) => by have := (hF d hd).1; omega)⟩
theorem d1_image {w : World} {lo d : Nat} {S : Dk.Ds} (h : Dk1 w lo d S) :
    Calls Try.prog 18 #[.pointer (some ⟨d, 0, none⟩)] w (SlP (Dk.image S.dur S.pend) w) := by
  obtain ⟨F, D, hF⟩ := h
  obtain ⟨m, n, v0, v1, v4, X, h⟩ := id D
  exact image_spec F d S w D h.small
theorem d1_pages {w : World} {lo d : Nat} {S : Dk.Ds} (h : Dk1 w lo d S) :
    Calls Try.prog 22 #[.pointer (some ⟨d, 0, none⟩)] w fun e w' => e = .returned (.int .i64 S.dur.length) ∧ w = w' := by
  obtain ⟨F, D, hF⟩ := h
  exact pages_spec F d S w D
theorem d1_pending {w : World} {lo d : Nat} {S : Dk.Ds} (h : Dk1 w lo d S) :
    Calls Try.prog 16 #[.pointer (some ⟨d, 0, none⟩)] w fun e w' => e = .returned (.int .i64 S.pend.length) ∧ w = w' := by
  obtain ⟨F, D, hF⟩ := h
  exact pending_spec F d S w D
theorem d1_read {w : World} {lo d : Nat} {S : Dk.Ds} (h : Dk1 w lo d S) (p : Int) :
    Calls Try.prog 20 #[.pointer (some ⟨d, 0, none⟩), .int .i64 p] w fun e w' => e = .returned (.tuple #[.string ⟨(Dk.read S.dur S.pend p).1.toArray⟩, .int .i64 (Dk.read S.dur S.pend p).2]) ∧ w = w' := by
  obtain ⟨F, D, hF⟩ := h
  exact read_spec F d S p w D
end Go.Proofs.Ytepdfeegklinfaa
