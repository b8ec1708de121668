/-
  Disks, references and their rows as resources that lie apart. Conditions: as the functions' own.
-/
import Derived.Test.YtepdfeegklinfaaSep
import Derived.Test.YtepdfeegklinfaaDk2
namespace Go.Proofs.Ytepdfeegklinfaa
set_option linter.unusedVariables false
open Go.RowKit Go.ChangeMaps Go.MapKept

def diskR (d : Nat) (S : Dk.Ds) : Res where
  P w F := Dsk w F d S
  lt h := h.fb
  mod h hm hG := h.mod hm hG
def refR (v : Value) (dur : List Dk.Str) (pend : List Dk.Wr) : Res where
  P w F := RV w v dur pend ∧ InG F v ∧ ∀ k, F k → k < w.heap.size
  lt h := h.2.2
  mod h hm hG := ⟨h.1.mod hm h.2.1 (fun k hk hf => hG k hf hk), h.2.1, fun k hk => Nat.lt_of_lt_of_le (h.2.2 k hk) hm.size⟩
/-- a row of strings of the call's own -/
def rowR (A : Option Addr) (c : Nat) (l : List Dk.Str) : Res := ownR 9 1 (.slice A l.length c) l.length (strs l)
section
variable {lo : Nat} {w0 w : World} {Rs : List Res} {d : Nat} {S : Dk.Ds}
theorem St.disk (h : St lo w0 w (diskR d S :: Rs)) : ∃ F, Dsk w F d S := by
  obtain ⟨F, h1, _⟩ := h.open
  exact ⟨F, h1⟩
theorem St.ref {v : Value} {dur : List Dk.Str} {pend : List Dk.Wr} (h : St lo w0 w (refR v dur pend :: Rs)) : RV w v dur pend := by
  obtain ⟨F, h1, _⟩ := h.open
  exact h1.1
theorem St.row {A : Option Addr} {c : Nat} {l : List Dk.Str} (h : St lo w0 w (rowR A c l :: Rs)) : Rd w A (strs l) := Rd.of_own h.own
theorem s_dskP (h : St lo w0 w (diskR d S :: Rs)) {f : Nat} {args : Array Value} {v : Value} {S' : Dk.Ds} (hc : ∀ F, Dsk w F d S → Calls Try.prog f args w (DskP F d S' v w)) :
    Calls Try.prog f args w fun e w' => e = .returned v ∧ St lo w0 w' (diskR d S' :: Rs) := by
  obtain ⟨F, h1, h2, h3⟩ := h.open
  refine (hc F h1).mono ?_
  rintro e w' ⟨he, hD, hm⟩
  exact ⟨he, h3 (diskR d S') hm hD (fun k hk => by rcases hk with hk | hk; exact .inl hk; exact .inr hk.1)⟩
theorem s_write (h : St lo w0 w (diskR d S :: Rs)) (p : Int) (x : Dk.Str) (hR : S.recd.length ≤ 1099511627776) (hP : S.pend.length ≤ 1099511627776) (hx : x.length ≤ 9223372036854775807) :
    Calls Try.prog 27 #[.pointer (some ⟨d, 0, none⟩), .int .i64 p, .string ⟨x.toArray⟩] w fun e w' => e = .returned (.int .i64 (Dk.wErr S.dur p x)) ∧ St lo w0 w' (diskR d (Dk.write S p x) :: Rs) :=
  s_dskP h (fun F h1 => write_spec F d S p x w h1 hR hP hx)
theorem s_sync (h : St lo w0 w (diskR d S :: Rs)) (hR : S.recd.length ≤ 1099511627776) (hP : S.pend.length ≤ 1099511627776) :
    Calls Try.prog 25 #[.pointer (some ⟨d, 0, none⟩)] w fun e w' => e = .returned (.tuple #[]) ∧ St lo w0 w' (diskR d (Dk.sync S) :: Rs) :=
  s_dskP h (fun F h1 => sync_spec F d S w h1 hR hP)
/-- the choices came in -/
theorem s_crash (h : St lo w0 w (diskR d S :: Rs)) (A : Option Addr) (cs : List Int) (c : Nat) (hR : Rd w A (ints cs)) (hcl : cs.length ≤ 9223372036854775807) (hA : cs ≠ [] → ∀ p, A = some p → p.block < lo) (hP : S.pend.length ≤ 1099511627776) :
    Calls Try.prog 24 #[.pointer (some ⟨d, 0, none⟩), .slice A cs.length c] w fun e w' => e = .returned (.tuple #[]) ∧ St lo w0 w' (diskR d (Dk.crash S cs) :: Rs) := by
  obtain ⟨F, h1, h2, h3⟩ := h.open
  refine (crash_spec F d S A cs c w h1 hR hcl (fun hc p hp hf => by have := hA hc p hp; have := h2 _ hf; omega) hP).mono ?_
  rintro e w' ⟨he, hD, hm⟩
  exact ⟨he, h3 (diskR d (Dk.crash S cs)) hm hD (fun k hk => by rcases hk with hk | hk; exact .inl hk; exact .inr hk.1)⟩
/-- the choices lie in a block apart -/
theorem s_crash1 {t : TypeId} {g : Nat} (c0 : Int) (h : St lo w0 w (diskR d S :: cellsR g t #[.int .i64 c0] :: Rs)) (hP : S.pend.length ≤ 1099511627776) :
    Calls Try.prog 24 #[.pointer (some ⟨d, 0, none⟩), .slice (some ⟨g, 0, none⟩) 1 1] w fun e w' => e = .returned (.tuple #[]) ∧ St lo w0 w' (diskR d (Dk.crash S [c0]) :: Rs) := by
  obtain ⟨F, G, h1, h2, h3, h4, h5, h6⟩ := h.open2
  obtain ⟨hb, rfl⟩ := h2
  have hR : Rd w (some ⟨g, 0, none⟩) (ints [c0]) := .inr ⟨g, 0, rfl, fun j hj => by
    obtain rfl : j = 0 := by simp [ints] at hj; omega
    have := hb.cell 0
    simpa [ints] using this⟩
  refine (crash_spec F d S (some ⟨g, 0, none⟩) [c0] 1 w h1 hR (by simp) (fun _ p hp hf => by injection hp with hp; subst hp; exact h5 _ hf rfl) hP).mono ?_
  rintro e w' ⟨he, hD, hm⟩
  have hfin := h6 (diskR d (Dk.crash S [c0])) (cellsR g t #[.int .i64 c0]) (F' := grow F w w') (G' := fun k => k = g) (hm.mono (fun i _ hf => .inl hf)) hD ⟨hb.mod hm (fun hf => h5 _ hf rfl), rfl⟩ (fun k hk => by rcases hk with hk | hk; exact .inl hk; exact .inr hk.1) (fun k hk => .inl hk)
    (fun k hk hg => by subst hg; rcases hk with hk | hk; exact h5 _ hk rfl; have := hb.lt; omega)
  exact ⟨he, hfin.swap.tail⟩
theorem ints_eq_nil {cs : List Int} (h : ints cs = []) : cs = [] := List.eq_nil_of_length_eq_zero (by have := congrArg List.length h; rwa [ints_length] at this)
/-- the choices are a row of the call's own -/
theorem s_crashO {A : Option Addr} {cs : List Int} {c : Nat} (h : St lo w0 w (diskR d S :: ownR 3 1 (.slice A cs.length c) cs.length (ints cs) :: Rs)) (hP : S.pend.length ≤ 1099511627776) :
    Calls Try.prog 24 #[.pointer (some ⟨d, 0, none⟩), .slice A cs.length c] w fun e w' => e = .returned (.tuple #[]) ∧ St lo w0 w' (diskR d (Dk.crash S cs) :: Rs) := by
  have hlen : cs.length ≤ 9223372036854775807 := by
    have := h.swap.own
    obtain ⟨A', c', he, h1, h2⟩ := own_form this
    injection he with he1 he2 he3
    subst he3
    exact Nat.le_trans h1 h2
  obtain ⟨F, G, h1, h2, h3, h4, h5, h6⟩ := h.open2
  refine (crash_spec F d S A cs c w h1 (Rd.of_own h2.1) hlen (fun hc p hp hf => h5 _ hf (h2.2.1 _ (by subst hp; rcases h2.1.2 with ⟨he, _⟩ | ⟨g, cap, cur, he, _⟩; cases he; injection he with he; injection he with he; subst he; rfl))) hP).mono ?_
  rintro e w' ⟨he, hD, hm⟩
  have hfin := h6 (diskR d (Dk.crash S cs)) (ownR 3 1 (.slice A cs.length c) cs.length (ints cs)) (w' := w') (F' := grow F w w') (G' := G) (hm.mono (fun i _ hf => .inl hf)) hD
    ((ownR 3 1 (.slice A cs.length c) cs.length (ints cs)).mod h2 hm (fun k hg hf => h5 k hf hg)) (fun k hk => by rcases hk with hk | hk; exact .inl hk; exact .inr hk.1) (fun k hk => .inl hk)
    (fun k hk hg => by rcases hk with hk | hk; exact h5 _ hk hg; have := h2.2.2 k hg; omega)
  exact ⟨he, hfin.swap.tail⟩
theorem s_clone (h : St lo w0 w (diskR d S :: Rs)) (hP : S.pend.length ≤ 1099511627776) :
    Calls Try.prog 23 #[.pointer (some ⟨d, 0, none⟩)] w fun e w' => ∃ c, e = .returned (.pointer (some ⟨c, 0, none⟩)) ∧ St lo w0 w' (diskR c (Dk.clone S) :: diskR d S :: Rs) := by
  obtain ⟨F, h1⟩ := h.disk
  refine (clone_disk F d S w h1 hP).mono ?_
  rintro e w' ⟨c, rfl, D2, hb⟩
  exact ⟨c, rfl, h.new (R := diskR c (Dk.clone S)) hb D2 (fun k hk => hk.1)⟩
theorem s_record (h : St lo w0 w (diskR d S :: Rs)) (t : Bool) :
    Calls Try.prog 26 #[.pointer (some ⟨d, 0, none⟩), .bool t] w fun e w' => ∃ A c, e = .returned (.slice A S.recd.length c) ∧ St lo w0 w' (diskR d { S with rc := t, recd := [] } :: ownR 38 3 (.slice A S.recd.length c) S.recd.length (ops S.recd) :: Rs) := by
  obtain ⟨F, h1, h2, h3⟩ := h.split
  refine (recordOn_spec F d S t w h1).mono ?_
  rintro e w' ⟨v, rfl, o, hv, D2, m, hd⟩
  obtain ⟨A, c, rfl, _, _⟩ := own_form o
  exact ⟨A, c, rfl, h3 (diskR d { S with rc := t, recd := [] }) (ownR 38 3 (.slice A S.recd.length c) S.recd.length (ops S.recd)) (G' := fun k => (Value.slice A S.recd.length c).ownBlock = some k) (m.mono (fun i _ e => by subst e; exact hd)) D2
    ⟨o, fun k hk => hk, fun k hk => (o.lt k hk).2⟩ (fun k hk => .inl hk.1) (fun k hk => .inl (hv k hk)) (fun k hk hg => hk.2 hg)⟩
theorem s_do (a : Ac) {v : Value} (h : St lo w0 w (diskR d S :: refR v S.dur S.pend :: Rs)) (hR : S.recd.length ≤ 1099511627776) (hP : S.pend.length ≤ 1099511627776) (hok : AcOk w0 a) (hlo : lo = w0.heap.size) :
    Calls Try.prog 15 #[.pointer (some ⟨d, 0, none⟩), v, acV a] w fun e w' => ∃ A1 c1 A2 c2, e = .returned (.tuple #[.agg #[.slice A1 (stepS S a).dur.length c1, .slice A2 (stepS S a).pend.length c2], .bool true]) ∧
      St lo w0 w' (diskR d (stepS S a) :: refR (.agg #[.slice A1 (stepS S a).dur.length c1, .slice A2 (stepS S a).pend.length c2]) (stepS S a).dur (stepS S a).pend :: Rs) := by
  subst hlo
  obtain ⟨F, G, h1, h2, h3, h4, h5, h6⟩ := h.open2
  refine (do_spec F G d v S a w ⟨h1, h2.1, h2.2.1, h5, h2.2.2⟩ hR hP h1.small (hok.below h.below) (fun hne p hp hf => ?_)).mono ?_
  · have h1 := h3 _ hf
    have h2 : p.block < w0.heap.size := by
      rcases hok.1 with h | ⟨b, o, hA, hc⟩
      · exact absurd (List.eq_nil_of_length_eq_zero (by have := congrArg List.length h; rwa [ints_length] at this)) hne
      · rw [hA] at hp
        injection hp with hp
        subst hp
        exact World.block_lt_of_cell? w0 _ (hc 0 (by rw [ints_length]; exact List.length_pos_iff.2 hne))
    omega
  · rintro e w' ⟨v', F', G', rfl, T', m', hF', hG'⟩
    obtain ⟨A3, c3, A4, c4, rfl, _⟩ := id T'.R
    exact ⟨A3, c3, A4, c4, rfl, h6 (diskR d (stepS S a)) (refR _ (stepS S a).dur (stepS S a).pend) (m'.mono (fun i _ hf => .inl hf)) T'.D ⟨T'.R, T'.I, T'.L⟩ hF' hG' T'.X⟩
/-- a disk and its reference, new -/
theorem s_start (h : St lo w0 w Rs) (p : Nat) (hp : p ≤ 255) :
    Calls Try.prog 14 #[.int .u8 p] w fun e w' => ∃ d A1 c1 A2 c2, e = .returned (.tuple #[.pointer (some ⟨d, 0, none⟩), .agg #[.slice A1 (1 + p % 12) c1, .slice A2 0 c2]]) ∧
      St lo w0 w' (diskR d (blank (1 + p % 12)) :: refR (.agg #[.slice A1 (1 + p % 12) c1, .slice A2 0 c2]) (List.replicate (1 + p % 12) []) [] :: Rs) := by
  refine (start_spec p hp w).mono ?_
  rintro e w' ⟨d, v, F, rfl, D5, V5, b5, hF5, hG5⟩
  obtain ⟨A1, c1, A2, c2, rfl, hv5⟩ := id V5
  rw [List.length_replicate, List.length_nil] at V5 hG5 ⊢
  exact ⟨d, A1, c1, A2, c2, rfl, h.new2 (R := diskR d (blank (1 + p % 12))) (S := refR (.agg #[.slice A1 (1 + p % 12) c1, .slice A2 0 c2]) (List.replicate (1 + p % 12) []) []) (G := fun k => w.heap.size ≤ k ∧ k < w'.heap.size ∧ ¬ F k) b5 D5 ⟨V5, hG5, fun k hk => hk.2.1⟩ hF5 (fun k hk => hk.1) (fun k hf hg => hg.2.2 hf)⟩
theorem s_image (h : St lo w0 w (diskR d S :: Rs)) :
    Calls Try.prog 18 #[.pointer (some ⟨d, 0, none⟩)] w fun e w' => ∃ A c, e = .returned (.slice A (Dk.image S.dur S.pend).length c) ∧ St lo w0 w' (rowR A c (Dk.image S.dur S.pend) :: diskR d S :: Rs) := by
  obtain ⟨F, D⟩ := h.disk
  refine (image_own F d S w D D.small).mono ?_
  rintro e w' ⟨A, c, rfl, ho, hb⟩
  exact ⟨A, c, rfl, h.new_own hb ho⟩
theorem s_pages (h : St lo w0 w (diskR d S :: Rs)) :
    Calls Try.prog 22 #[.pointer (some ⟨d, 0, none⟩)] w fun e w' => e = .returned (.int .i64 S.dur.length) ∧ w = w' := by
  obtain ⟨F, D⟩ := h.disk
  exact pages_spec F d S w D
theorem s_pending (h : St lo w0 w (diskR d S :: Rs)) :
    Calls Try.prog 16 #[.pointer (some ⟨d, 0, none⟩)] w fun e w' => e = .returned (.int .i64 S.pend.length) ∧ w = w' := by
  obtain ⟨F, D⟩ := h.disk
  exact pending_spec F d S w D
theorem s_read (h : St lo w0 w (diskR d S :: Rs)) (p : Int) :
    Calls Try.prog 20 #[.pointer (some ⟨d, 0, none⟩), .int .i64 p] w fun e w' => e = .returned (.tuple #[.string ⟨(Dk.read S.dur S.pend p).1.toArray⟩, .int .i64 (Dk.read S.dur S.pend p).2]) ∧ w = w' := by
  obtain ⟨F, D⟩ := h.disk
  exact read_spec F d S p w D
end
/-- the state of a round: the disk, its reference in the variable at B, and what else is held -/
def DoS (lo : Nat) (w0 : World) (B d n k : Nat) (Xs : List Res) (S : Dk.Ds) (wr : World) : Prop :=
  ∃ A1 c1 A2 c2, St lo w0 wr (diskR d S :: refR (.agg #[.slice A1 S.dur.length c1, .slice A2 S.pend.length c2]) S.dur S.pend :: cellsR B 32 #[.slice A1 S.dur.length c1, .slice A2 S.pend.length c2] :: Xs) ∧
    S.dur.length = n ∧ S.pend.length ≤ k ∧ S.recd.length ≤ k
/-- the choices came in: they lie below the bound -/
theorem ints_lt {w : World} {A : Option Addr} {cs : List Int} (h : Rd w A (ints cs)) : cs ≠ [] → ∀ p, A = some p → p.block < w.heap.size := fun hc p hp => by
  obtain ⟨q, hq, hl⟩ := h.lt (fun h => hc (by have := congrArg List.length h; rw [ints_length] at this; exact List.eq_nil_of_length_eq_zero this))
  rw [hp] at hq; injection hq with hq; subst hq; exact hl
end Go.Proofs.Ytepdfeegklinfaa
