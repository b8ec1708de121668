/-
  The reader's methods Uint, Int, Text, Count, and the takes under them: what they answer and what they leave of the reader. Conditions: the offset lies in the string, the string has at most 2^40 bytes.
-/
import Derived.Test.YtalailodnmfmlaaCodecR2
namespace Go.Proofs.Ytalailodnmfmlaa
set_option linter.unusedVariables false
open Go.RowKit

theorem Rr.at1 {w : World} {r : Nat} {s : List UInt8} {at_ next : Nat} {e : Int} (h : Rr w r s at_ e) : Rr (w.setCell ⟨r, 1, none⟩ (.int .i64 next)) r s next e := by
  have := Blk.set_ h 1 (.int .i64 next)
  simpa [Rr] using this
theorem Rr.at2 {w : World} {r : Nat} {s : List UInt8} {at_ : Nat} {e e' : Int} (h : Rr w r s at_ e) : Rr (w.setCell ⟨r, 2, none⟩ (.int .i64 e')) r s at_ e' := by
  have := Blk.set_ h 2 (.int .i64 e')
  simpa [Rr] using this
theorem Rr.mod {S : Nat → Prop} {w w' : World} {r : Nat} {s : List UInt8} {at_ : Nat} {e : Int} (h : Rr w r s at_ e) (hm : Mod S w w') (hs : ¬ S r) : Rr w' r s at_ e := Blk.mod h hm hs
theorem Rr.below {w w' : World} {r : Nat} {s : List UInt8} {at_ : Nat} {e : Int} (h : Rr w r s at_ e) (hb : Below w.heap.size w w') : Rr w' r s at_ e := Blk.below h hb

def uintR (s : List UInt8) (at_ : Nat) (e : Int) : Int × Nat × Int := if e ≠ 0 then (0, at_, e) else match Cd.readUint s at_ with
  | some (n, next) => (n, next, 0)
  | none => (0, at_, 9)
def intR (s : List UInt8) (at_ : Nat) (e : Int) : Int × Nat × Int := if e ≠ 0 then (0, at_, e) else match Cd.readInt s at_ with
  | some (n, next) => (n, next, 0)
  | none => (0, at_, 9)
def countR (s : List UInt8) (at_ : Nat) (e most : Int) : Int × Nat × Int := if e ≠ 0 then (0, at_, e) else match Cd.readCount s at_ most with
  | some (n, next) => (n, next, 0)
  | none => (0, at_, 9)
def textR (s : List UInt8) (at_ : Nat) (e : Int) : List UInt8 × Nat × Int := if e ≠ 0 then ([], at_, e) else match Cd.readText s at_ with
  | some (n, next) => (n, next, 0)
  | none => ([], at_, 9)


/-! ### uintT -/
theorem uintT_no (r : Nat) (s : List UInt8) (at_ : Nat) (e : Int)  (w : World) (h : Rr w r s at_ e) (he : e ≠ 0) :
    Calls Try.prog 40 #[.pointer (some ⟨r, 0, none⟩), .func (.func 41) #[.pointer (some ⟨r, 0, none⟩)] #[]] w fun e' w' => e' = .returned (.int .i64 0) ∧ w = w' := by
  have c2 := h.c2
  have h2 : (e == 0) = false := by simpa using he
  have h3 : (e != 0) = true := by simpa using he
  clear he h
  go_enter Try.func40, Try.ntmps40
  go_wp2
  go_ret
  exact ⟨rfl, rfl⟩
set_option maxHeartbeats 400000 in
theorem uintT_ok (r : Nat) (s : List UInt8) (at_ : Nat)  (w : World) (h : Rr w r s at_ 0)  (x : Int) (next : Nat) (hf : ∀ w, w.cell? ⟨r, 0, none⟩ = some (.string ⟨s.toArray⟩) → Calls Try.prog 41 #[.pointer (some ⟨r, 0, none⟩), .int .i64 at_] w fun e w' => e = .returned (.tuple #[.int .i64 x, .int .i64 next, .bool true]) ∧ w = w') :
    Calls Try.prog 40 #[.pointer (some ⟨r, 0, none⟩), .func (.func 41) #[.pointer (some ⟨r, 0, none⟩)] #[]] w fun e' w' => e' = .returned (.int .i64 x) ∧ Rr w' r s next 0 ∧ Mod (fun k => k = r) w w' := by
  have c1 := h.c1
  have c2 := h.c2
  have f1 : w.frozen? ⟨r, 1, none⟩ = false := Blk.frozen h 1
  have HH := Lib.hid h; clear h
  go_enter Try.func40, Try.ntmps40
  go_wp2_with fail
  refine (hf _ HH.out.c0).mono ?_
  rintro e w' ⟨rfl, rfl⟩
  clear hf
  go_wp2
  go_ret
  exact ⟨rfl, HH.out.at1, mod_set w r 1 _⟩
set_option maxHeartbeats 400000 in
theorem uintT_bad (r : Nat) (s : List UInt8) (at_ : Nat)  (w : World) (h : Rr w r s at_ 0)  (hf : ∀ w, w.cell? ⟨r, 0, none⟩ = some (.string ⟨s.toArray⟩) → Calls Try.prog 41 #[.pointer (some ⟨r, 0, none⟩), .int .i64 at_] w fun e w' => (∃ (x : Int) (y : Int), e = .returned (.tuple #[.int .i64 x, .int .i64 y, .bool false])) ∧ w = w') :
    Calls Try.prog 40 #[.pointer (some ⟨r, 0, none⟩), .func (.func 41) #[.pointer (some ⟨r, 0, none⟩)] #[]] w fun e' w' => e' = .returned (.int .i64 0) ∧ Rr w' r s at_ 9 ∧ Mod (fun k => k = r) w w' := by
  have c1 := h.c1
  have c2 := h.c2
  have f1 : w.frozen? ⟨r, 2, none⟩ = false := Blk.frozen h 2
  have HH := Lib.hid h; clear h
  go_enter Try.func40, Try.ntmps40
  go_wp2_with fail
  refine (hf _ HH.out.c0).mono ?_
  rintro e w' ⟨⟨x, y, rfl⟩, rfl⟩
  clear hf
  go_wp2
  go_ret
  exact ⟨rfl, HH.out.at2, mod_set w r 2 _⟩

/-! ### textT -/
theorem textT_no (r : Nat) (s : List UInt8) (at_ : Nat) (e : Int)  (w : World) (h : Rr w r s at_ e) (he : e ≠ 0) :
    Calls Try.prog 44 #[.pointer (some ⟨r, 0, none⟩), .func (.func 45) #[.pointer (some ⟨r, 0, none⟩)] #[]] w fun e' w' => e' = .returned (.string ⟨#[]⟩) ∧ w = w' := by
  have c2 := h.c2
  have h2 : (e == 0) = false := by simpa using he
  have h3 : (e != 0) = true := by simpa using he
  clear he h
  go_enter Try.func44, Try.ntmps44
  go_wp2
  go_ret
  exact ⟨rfl, rfl⟩
set_option maxHeartbeats 400000 in
theorem textT_ok (r : Nat) (s : List UInt8) (at_ : Nat)  (w : World) (h : Rr w r s at_ 0)  (x : List UInt8) (next : Nat) (hf : ∀ w, w.cell? ⟨r, 0, none⟩ = some (.string ⟨s.toArray⟩) → Calls Try.prog 45 #[.pointer (some ⟨r, 0, none⟩), .int .i64 at_] w fun e w' => e = .returned (.tuple #[.string ⟨x.toArray⟩, .int .i64 next, .bool true]) ∧ w = w') :
    Calls Try.prog 44 #[.pointer (some ⟨r, 0, none⟩), .func (.func 45) #[.pointer (some ⟨r, 0, none⟩)] #[]] w fun e' w' => e' = .returned (.string ⟨x.toArray⟩) ∧ Rr w' r s next 0 ∧ Mod (fun k => k = r) w w' := by
  have c1 := h.c1
  have c2 := h.c2
  have f1 : w.frozen? ⟨r, 1, none⟩ = false := Blk.frozen h 1
  have HH := Lib.hid h; clear h
  go_enter Try.func44, Try.ntmps44
  go_wp2_with fail
  refine (hf _ HH.out.c0).mono ?_
  rintro e w' ⟨rfl, rfl⟩
  clear hf
  go_wp2
  go_ret
  exact ⟨rfl, HH.out.at1, mod_set w r 1 _⟩
set_option maxHeartbeats 400000 in
theorem textT_bad (r : Nat) (s : List UInt8) (at_ : Nat)  (w : World) (h : Rr w r s at_ 0)  (hf : ∀ w, w.cell? ⟨r, 0, none⟩ = some (.string ⟨s.toArray⟩) → Calls Try.prog 45 #[.pointer (some ⟨r, 0, none⟩), .int .i64 at_] w fun e w' => (∃  (y : Int), e = .returned (.tuple #[.string ⟨#[]⟩, .int .i64 y, .bool false])) ∧ w = w') :
    Calls Try.prog 44 #[.pointer (some ⟨r, 0, none⟩), .func (.func 45) #[.pointer (some ⟨r, 0, none⟩)] #[]] w fun e' w' => e' = .returned (.string ⟨#[]⟩) ∧ Rr w' r s at_ 9 ∧ Mod (fun k => k = r) w w' := by
  have c1 := h.c1
  have c2 := h.c2
  have f1 : w.frozen? ⟨r, 2, none⟩ = false := Blk.frozen h 2
  have HH := Lib.hid h; clear h
  go_enter Try.func44, Try.ntmps44
  go_wp2_with fail
  refine (hf _ HH.out.c0).mono ?_
  rintro e w' ⟨⟨ y, rfl⟩, rfl⟩
  clear hf
  go_wp2
  go_ret
  exact ⟨rfl, HH.out.at2, mod_set w r 2 _⟩

/-! ### intT -/
theorem intT_no (r : Nat) (s : List UInt8) (at_ : Nat) (e : Int) (g : Nat) (w : World) (h : Rr w r s at_ e) (he : e ≠ 0) :
    Calls Try.prog 40 #[.pointer (some ⟨r, 0, none⟩), .func (.func 42) #[] #[.pointer (some ⟨g, 0, none⟩)]] w fun e' w' => e' = .returned (.int .i64 0) ∧ w = w' := by
  have c2 := h.c2
  have h2 : (e == 0) = false := by simpa using he
  have h3 : (e != 0) = true := by simpa using he
  clear he h
  go_enter Try.func40, Try.ntmps40
  go_wp2
  go_ret
  exact ⟨rfl, rfl⟩
set_option maxHeartbeats 400000 in
theorem intT_ok (r : Nat) (s : List UInt8) (at_ : Nat) (g : Nat) (w : World) (h : Rr w r s at_ 0) (hg : w.cell? ⟨g, 0, none⟩ = some (.pointer (some ⟨r, 0, none⟩))) (x : Int) (next : Nat) (hf : ∀ w, w.cell? ⟨r, 0, none⟩ = some (.string ⟨s.toArray⟩) → w.cell? ⟨g, 0, none⟩ = some (.pointer (some ⟨r, 0, none⟩)) → Calls Try.prog 42 #[.int .i64 at_, .pointer (some ⟨g, 0, none⟩)] w fun e w' => e = .returned (.tuple #[.int .i64 x, .int .i64 next, .bool true]) ∧ w = w') :
    Calls Try.prog 40 #[.pointer (some ⟨r, 0, none⟩), .func (.func 42) #[] #[.pointer (some ⟨g, 0, none⟩)]] w fun e' w' => e' = .returned (.int .i64 x) ∧ Rr w' r s next 0 ∧ Mod (fun k => k = r) w w' := by
  have c1 := h.c1
  have c2 := h.c2
  have f1 : w.frozen? ⟨r, 1, none⟩ = false := Blk.frozen h 1
  have HH := Lib.hid h; clear h
  go_enter Try.func40, Try.ntmps40
  go_wp2_with fail
  refine (hf _ HH.out.c0 hg).mono ?_
  rintro e w' ⟨rfl, rfl⟩
  clear hf
  go_wp2
  go_ret
  exact ⟨rfl, HH.out.at1, mod_set w r 1 _⟩
set_option maxHeartbeats 400000 in
theorem intT_bad (r : Nat) (s : List UInt8) (at_ : Nat) (g : Nat) (w : World) (h : Rr w r s at_ 0) (hg : w.cell? ⟨g, 0, none⟩ = some (.pointer (some ⟨r, 0, none⟩))) (hf : ∀ w, w.cell? ⟨r, 0, none⟩ = some (.string ⟨s.toArray⟩) → w.cell? ⟨g, 0, none⟩ = some (.pointer (some ⟨r, 0, none⟩)) → Calls Try.prog 42 #[.int .i64 at_, .pointer (some ⟨g, 0, none⟩)] w fun e w' => (∃ (x : Int) (y : Int), e = .returned (.tuple #[.int .i64 x, .int .i64 y, .bool false])) ∧ w = w') :
    Calls Try.prog 40 #[.pointer (some ⟨r, 0, none⟩), .func (.func 42) #[] #[.pointer (some ⟨g, 0, none⟩)]] w fun e' w' => e' = .returned (.int .i64 0) ∧ Rr w' r s at_ 9 ∧ Mod (fun k => k = r) w w' := by
  have c1 := h.c1
  have c2 := h.c2
  have f1 : w.frozen? ⟨r, 2, none⟩ = false := Blk.frozen h 2
  have HH := Lib.hid h; clear h
  go_enter Try.func40, Try.ntmps40
  go_wp2_with fail
  refine (hf _ HH.out.c0 hg).mono ?_
  rintro e w' ⟨⟨x, y, rfl⟩, rfl⟩
  clear hf
  go_wp2
  go_ret
  exact ⟨rfl, HH.out.at2, mod_set w r 2 _⟩

/-! ### countT -/
theorem countT_no (r : Nat) (s : List UInt8) (at_ : Nat) (e : Int) (g m : Nat) (most : Int) (w : World) (h : Rr w r s at_ e) (he : e ≠ 0) :
    Calls Try.prog 40 #[.pointer (some ⟨r, 0, none⟩), .func (.func 56) #[] #[.pointer (some ⟨g, 0, none⟩), .pointer (some ⟨m, 0, none⟩)]] w fun e' w' => e' = .returned (.int .i64 0) ∧ w = w' := by
  have c2 := h.c2
  have h2 : (e == 0) = false := by simpa using he
  have h3 : (e != 0) = true := by simpa using he
  clear he h
  go_enter Try.func40, Try.ntmps40
  go_wp2
  go_ret
  exact ⟨rfl, rfl⟩
set_option maxHeartbeats 400000 in
theorem countT_ok (r : Nat) (s : List UInt8) (at_ : Nat) (g m : Nat) (most : Int) (w : World) (h : Rr w r s at_ 0) (hg : w.cell? ⟨g, 0, none⟩ = some (.pointer (some ⟨r, 0, none⟩))) (hm : w.cell? ⟨m, 0, none⟩ = some (.int .i64 most)) (x : Int) (next : Nat) (hf : ∀ w, w.cell? ⟨r, 0, none⟩ = some (.string ⟨s.toArray⟩) → w.cell? ⟨g, 0, none⟩ = some (.pointer (some ⟨r, 0, none⟩)) → w.cell? ⟨m, 0, none⟩ = some (.int .i64 most) → Calls Try.prog 56 #[.int .i64 at_, .pointer (some ⟨g, 0, none⟩), .pointer (some ⟨m, 0, none⟩)] w fun e w' => e = .returned (.tuple #[.int .i64 x, .int .i64 next, .bool true]) ∧ ∃ n, w' = w.drewN n) :
    Calls Try.prog 40 #[.pointer (some ⟨r, 0, none⟩), .func (.func 56) #[] #[.pointer (some ⟨g, 0, none⟩), .pointer (some ⟨m, 0, none⟩)]] w fun e' w' => e' = .returned (.int .i64 x) ∧ Rr w' r s next 0 ∧ Mod (fun k => k = r) w w' := by
  have c1 := h.c1
  have c2 := h.c2
  have f1 : w.frozen? ⟨r, 1, none⟩ = false := Blk.frozen h 1
  have HH := Lib.hid h; clear h
  go_enter Try.func40, Try.ntmps40
  go_wp2_with fail
  refine (hf _ HH.out.c0 hg hm).mono ?_
  rintro e w' ⟨rfl, n, rfl⟩
  clear hf
  go_wp2
  go_ret
  exact ⟨rfl, Rr.at1 (w := w.drewN n) HH.out, mod_setN w n r 1 _⟩
set_option maxHeartbeats 400000 in
theorem countT_bad (r : Nat) (s : List UInt8) (at_ : Nat) (g m : Nat) (most : Int) (w : World) (h : Rr w r s at_ 0) (hg : w.cell? ⟨g, 0, none⟩ = some (.pointer (some ⟨r, 0, none⟩))) (hm : w.cell? ⟨m, 0, none⟩ = some (.int .i64 most)) (hf : ∀ w, w.cell? ⟨r, 0, none⟩ = some (.string ⟨s.toArray⟩) → w.cell? ⟨g, 0, none⟩ = some (.pointer (some ⟨r, 0, none⟩)) → w.cell? ⟨m, 0, none⟩ = some (.int .i64 most) → Calls Try.prog 56 #[.int .i64 at_, .pointer (some ⟨g, 0, none⟩), .pointer (some ⟨m, 0, none⟩)] w fun e w' => (∃ (x : Int) (y : Int), e = .returned (.tuple #[.int .i64 x, .int .i64 y, .bool false])) ∧ ∃ n, w' = w.drewN n) :
    Calls Try.prog 40 #[.pointer (some ⟨r, 0, none⟩), .func (.func 56) #[] #[.pointer (some ⟨g, 0, none⟩), .pointer (some ⟨m, 0, none⟩)]] w fun e' w' => e' = .returned (.int .i64 0) ∧ Rr w' r s at_ 9 ∧ Mod (fun k => k = r) w w' := by
  have c1 := h.c1
  have c2 := h.c2
  have f1 : w.frozen? ⟨r, 2, none⟩ = false := Blk.frozen h 2
  have HH := Lib.hid h; clear h
  go_enter Try.func40, Try.ntmps40
  go_wp2_with fail
  refine (hf _ HH.out.c0 hg hm).mono ?_
  rintro e w' ⟨⟨x, y, rfl⟩, n, rfl⟩
  clear hf
  go_wp2
  go_ret
  exact ⟨rfl, Rr.at2 (w := w.drewN n) HH.out, mod_setN w n r 2 _⟩
end Go.Proofs.Ytalailodnmfmlaa
