/-
  The closures under Int and Count, and the reader's methods. Conditions: the offset lies in the string, the string has at most 2^40 bytes.
-/
import Derived.Test.YtalailodnmfmlaaCodecR3
import Derived.Laws.DeepNot64
namespace Go.Proofs.Ytalailodnmfmlaa
set_option linter.unusedVariables false
open Go.RowKit

theorem xor_comm64 (x y : Int) : bits BinOp.xor IntKind.i64 x y = bits BinOp.xor IntKind.i64 y x := by
  unfold bits
  simp only [BitVec.xor_comm]
theorem xor0_64 (a : Nat) (h : a < 9223372036854775808) : bits BinOp.xor IntKind.i64 (a : Int) 0 = a := by
  have e : BitVec.ofInt 64 (a : Int) ^^^ BitVec.ofInt 64 0 = BitVec.ofNat 64 a := by
    rw [show BitVec.ofInt 64 0 = 0#64 from rfl, BitVec.xor_zero]; rfl
  show IntKind.i64.wrap ((BitVec.ofInt 64 (a : Int) ^^^ BitVec.ofInt 64 0).toNat : Int) = a
  rw [e, BitVec.toNat_ofNat, Nat.mod_eq_of_lt (by omega), IntKind.wrap_i64]; omega
theorem zig (n : Nat) (h : n < 18446744073709551616) : bits BinOp.xor IntKind.i64 ((n : Int) / 2) (wrap64 (-wrap64 (bits BinOp.and IntKind.u64 (n : Int) 1))) = Cd.unzig n := by
  have h1 : bits BinOp.and IntKind.u64 (n : Int) 1 = ((n % 2 : Nat) : Int) := by
    have := u64_and_nat n 1 h (by omega)
    rw [nat_mask1] at this
    exact this
  rw [h1, show ((n : Int) / 2) = ((n / 2 : Nat) : Int) from by omega]
  unfold Cd.unzig
  rcases Nat.mod_two_eq_zero_or_one n with h0 | h0
  · rw [h0, if_pos rfl]
    have : wrap64 (-wrap64 ((0 : Nat) : Int)) = 0 := by decide +kernel
    rw [this, xor0_64 _ (by omega)]
  · rw [h0, if_neg (by omega)]
    have : wrap64 (-wrap64 ((1 : Nat) : Int)) = -1 := by decide +kernel
    rw [this, xor_comm64, i64_not _ (by omega)]
    omega

set_option maxRecDepth 20000 in
set_option maxHeartbeats 400000 in
theorem int1_ok (r g : Nat) (s : List UInt8) (at_ n next : Nat) (w : World) (hc : w.cell? ⟨r, 0, none⟩ = some (.string ⟨s.toArray⟩)) (hg : w.cell? ⟨g, 0, none⟩ = some (.pointer (some ⟨r, 0, none⟩))) (hs : s.length ≤ 1099511627776) (ha : at_ ≤ s.length)
    (hu : Cd.readUns s at_ = some (n, next)) :
    Calls Try.prog 42 #[.int .i64 at_, .pointer (some ⟨g, 0, none⟩)] w fun e w' => e = .returned (.tuple #[.int .i64 (Cd.unzig n), .int .i64 next, .bool true]) ∧ w = w' := by
  have hsc := scan_spec r s at_ w hc hs ha
  have hle := Cd.readUns_le hu ha
  rw [hu] at hsc
  have hn1 : (n : Int) ≤ 18446744073709551615 := by omega
  clear hu hle
  go_enter Try.func42, Try.ntmps42
  go_wp2_with fail
  refine hsc.mono ?_
  rintro e w' ⟨he, rfl⟩
  obtain rfl := he
  clear hsc
  go_wp2
  go_ret3
  refine ⟨?_, rfl⟩
  rw [← zig n (by omega)]
  rfl
set_option maxRecDepth 20000 in
set_option maxHeartbeats 400000 in
theorem int1_bad (r g : Nat) (s : List UInt8) (at_ : Nat) (w : World) (hc : w.cell? ⟨r, 0, none⟩ = some (.string ⟨s.toArray⟩)) (hg : w.cell? ⟨g, 0, none⟩ = some (.pointer (some ⟨r, 0, none⟩))) (hs : s.length ≤ 1099511627776) (ha : at_ ≤ s.length)
    (hu : Cd.readUns s at_ = none) :
    Calls Try.prog 42 #[.int .i64 at_, .pointer (some ⟨g, 0, none⟩)] w fun e w' => (∃ x y : Int, e = .returned (.tuple #[.int .i64 x, .int .i64 y, .bool false])) ∧ w = w' := by
  have hsc := scan_spec r s at_ w hc hs ha
  rw [hu] at hsc
  clear hu
  go_enter Try.func42, Try.ntmps42
  go_wp2_with fail
  refine hsc.mono ?_
  rintro e w' ⟨⟨x, y, hx, hy, rfl⟩, rfl⟩
  clear hsc
  go_wp2
  go_ret3
  exact ⟨⟨_, _, rfl⟩, rfl⟩

set_option maxRecDepth 20000 in
set_option maxHeartbeats 400000 in
theorem count1_ok (r g m : Nat) (s : List UInt8) (at_ n next : Nat) (most : Int) (w : World) (hc : w.cell? ⟨r, 0, none⟩ = some (.string ⟨s.toArray⟩)) (hg : w.cell? ⟨g, 0, none⟩ = some (.pointer (some ⟨r, 0, none⟩))) (hm : w.cell? ⟨m, 0, none⟩ = some (.int .i64 most)) (hs : s.length ≤ 1099511627776) (ha : at_ ≤ s.length)
    (hu : Cd.readUint s at_ = some (n, next)) (t : Bool) (ht : decide ((n : Int) ≤ most) = t) :
    Calls Try.prog 56 #[.int .i64 at_, .pointer (some ⟨g, 0, none⟩), .pointer (some ⟨m, 0, none⟩)] w fun e w' => e = .returned (.tuple #[.int .i64 n, .int .i64 next, .bool t]) ∧ ∃ k, w' = w.drewN k := by
  have hsc := size_spec r s at_ w hc hs ha
  rw [hu] at hsc
  clear hu
  go_enter Try.func56, Try.ntmps56
  go_wp2_with fail
  refine hsc.mono ?_
  rintro e w' ⟨he, rfl⟩
  obtain rfl := he
  clear hsc
  go_wp2
  go_quiet (fail)
  go_wp2
  go_ret3
  exact ⟨rfl, _, rfl⟩
set_option maxRecDepth 20000 in
set_option maxHeartbeats 400000 in
theorem count1_bad (r g m : Nat) (s : List UInt8) (at_ : Nat) (most : Int) (w : World) (hc : w.cell? ⟨r, 0, none⟩ = some (.string ⟨s.toArray⟩)) (hg : w.cell? ⟨g, 0, none⟩ = some (.pointer (some ⟨r, 0, none⟩))) (hm : w.cell? ⟨m, 0, none⟩ = some (.int .i64 most)) (hs : s.length ≤ 1099511627776) (ha : at_ ≤ s.length)
    (hu : Cd.readUint s at_ = none) :
    Calls Try.prog 56 #[.int .i64 at_, .pointer (some ⟨g, 0, none⟩), .pointer (some ⟨m, 0, none⟩)] w fun e w' => (∃ x y : Int, e = .returned (.tuple #[.int .i64 x, .int .i64 y, .bool false])) ∧ ∃ k, w' = w.drewN k := by
  have hsc := size_spec r s at_ w hc hs ha
  rw [hu] at hsc
  clear hu
  go_enter Try.func56, Try.ntmps56
  go_wp2_with fail
  refine hsc.mono ?_
  rintro e w' ⟨⟨x, y, rfl⟩, rfl⟩
  clear hsc
  go_wp2
  go_quiet (fail)
  go_wp2
  go_ret3
  exact ⟨⟨_, _, rfl⟩, _, rfl⟩

theorem newReader_spec (s : List UInt8) (w : World) :
    Calls Try.prog 20 #[.string ⟨s.toArray⟩] w fun e w' => e = .returned (.pointer (some ⟨w.heap.size, 0, none⟩)) ∧ Rr w' w.heap.size s 0 0 ∧ Below w.heap.size w w' := by
  go_enter Try.func20, Try.ntmps20
  go_wp2
  go_ret
  exact ⟨rfl, Blk.new w _ _, (Below.refl _ w).alloc (Nat.le_refl _) _⟩
theorem error_spec (r : Nat) (s : List UInt8) (at_ : Nat) (e : Int) (w : World) (h : Rr w r s at_ e) :
    Calls Try.prog 26 #[.pointer (some ⟨r, 0, none⟩)] w fun e' w' => e' = .returned (.int .i64 e) ∧ w = w' := by
  have c2 := h.c2
  clear h
  go_enter Try.func26, Try.ntmps26
  go_wp2
  go_ret
  exact ⟨rfl, rfl⟩
theorem fail_no (r : Nat) (s : List UInt8) (at_ : Nat) (e f : Int) (w : World) (h : Rr w r s at_ e) (he : e ≠ 0) :
    Calls Try.prog 31 #[.pointer (some ⟨r, 0, none⟩), .int .i64 f] w fun e' w' => e' = .returned (.tuple #[]) ∧ w = w' := by
  have c2 := h.c2
  have h2 : (e == 0) = false := by simpa using he
  clear h he
  go_enter Try.func31, Try.ntmps31
  go_wp2
  go_end0
  exact ⟨rfl, rfl⟩
theorem fail_ok (r : Nat) (s : List UInt8) (at_ : Nat) (f : Int) (w : World) (h : Rr w r s at_ 0) :
    Calls Try.prog 31 #[.pointer (some ⟨r, 0, none⟩), .int .i64 f] w fun e' w' => e' = .returned (.tuple #[]) ∧ Rr w' r s at_ f ∧ Mod (fun k => k = r) w w' := by
  have c2 := h.c2
  have f2 : w.frozen? ⟨r, 2, none⟩ = false := Blk.frozen h 2
  have HH := Lib.hid h; clear h
  go_enter Try.func31, Try.ntmps31
  go_wp2
  go_end0
  exact ⟨rfl, HH.out.at2, mod_set w r 2 _⟩
def endR (s : List UInt8) (at_ : Nat) (e : Int) : Int := if e = 0 ∧ at_ < s.length then 9 else e
theorem end_spec (r : Nat) (s : List UInt8) (at_ : Nat) (e : Int) (w : World) (h : Rr w r s at_ e) :
    Calls Try.prog 27 #[.pointer (some ⟨r, 0, none⟩)] w fun e' w' => e' = .returned (.int .i64 (endR s at_ e)) ∧ ∃ k, w' = w.drewN k := by
  have c0 := h.c0
  have c1 := h.c1
  have c2 := h.c2
  clear h
  by_cases he : e = 0
  · subst he
    by_cases hl : at_ < s.length
    · have hx : endR s at_ 0 = 9 := if_pos ⟨rfl, hl⟩
      rw [hx]
      have hl' : decide ((at_ : Int) < (s.length : Int)) = true := by simpa using hl
      have hl2 : (at_ : Int) < (s.length : Int) := by omega
      clear hl hx
      go_enter Try.func27, Try.ntmps27
      go_wp2
      go_quiet (fail)
      go_wp2
      go_ret
      exact ⟨rfl, _, rfl⟩
    · have hx : endR s at_ 0 = 0 := if_neg (by omega)
      rw [hx]
      have hl' : decide ((at_ : Int) < (s.length : Int)) = false := by simpa using hl
      have hl2 : (s.length : Int) ≤ (at_ : Int) := by omega
      clear hl hx
      go_enter Try.func27, Try.ntmps27
      go_wp2
      go_quiet (fail)
      go_wp2
      go_ret
      exact ⟨rfl, _, rfl⟩
  · have hx : endR s at_ e = e := if_neg (by omega)
    rw [hx]
    have h2 : (e == 0) = false := by simpa using he
    clear he hx
    go_enter Try.func27, Try.ntmps27
    go_wp2
    go_quiet (fail)
    go_wp2
    go_ret
    exact ⟨rfl, _, rfl⟩

theorem readInt_none {s : List UInt8} {at_ : Nat} (h : Cd.readUns s at_ = none) : Cd.readInt s at_ = none := by simp [Cd.readInt, h]
theorem readInt_some {s : List UInt8} {at_ n next : Nat} (h : Cd.readUns s at_ = some (n, next)) : Cd.readInt s at_ = some (Cd.unzig n, next) := by simp [Cd.readInt, h]
theorem readCount_none {s : List UInt8} {at_ : Nat} {m : Int} (h : Cd.readUint s at_ = none) : Cd.readCount s at_ m = none := by simp [Cd.readCount, h]
theorem readCount_some {s : List UInt8} {at_ n next : Nat} {m : Int} (h : Cd.readUint s at_ = some (n, next)) (hm : (n : Int) ≤ m) : Cd.readCount s at_ m = some (n, next) := by simp only [Cd.readCount, h]; rw [if_pos hm]
theorem readCount_big {s : List UInt8} {at_ n next : Nat} {m : Int} (h : Cd.readUint s at_ = some (n, next)) (hm : ¬ (n : Int) ≤ m) : Cd.readCount s at_ m = none := by simp only [Cd.readCount, h]; rw [if_neg hm]

/-- what a method of the reader leaves: its answer, its new offset and error; nothing else turns -/
def MethP (r : Nat) (s : List UInt8) (v : Value) (next : Nat) (e : Int) (w : World) (e' : Ending) (w' : World) : Prop :=
  e' = .returned v ∧ Rr w' r s next e ∧ Mod (fun k => k = r) w w'
theorem MethP.same {r : Nat} {s : List UInt8} {v : Value} {at_ : Nat} {e : Int} {w : World} (h : Rr w r s at_ e) : MethP r s v at_ e w (.returned v) w := ⟨rfl, h, Mod.refl _ w⟩

theorem uintT_spec (r : Nat) (s : List UInt8) (at_ : Nat) (e : Int) (w : World) (h : Rr w r s at_ e) (hs : s.length ≤ 1099511627776) (ha : at_ ≤ s.length) :
    Calls Try.prog 40 #[.pointer (some ⟨r, 0, none⟩), .func (.func 41) #[.pointer (some ⟨r, 0, none⟩)] #[]] w (MethP r s (.int .i64 (uintR s at_ e).1) (uintR s at_ e).2.1 (uintR s at_ e).2.2 w) := by
  unfold uintR
  by_cases he : e = 0
  · subst he
    rw [if_neg (by simp)]
    cases hu : Cd.readUint s at_ with
    | none => exact uintT_bad r s at_ w h fun w1 hc => (size_spec r s at_ w1 hc hs ha).mono fun e' w' ⟨a, b⟩ => by rw [hu] at a; exact ⟨a, b⟩
    | some q => exact uintT_ok r s at_ w h q.1 q.2 fun w1 hc => (size_spec r s at_ w1 hc hs ha).mono fun e' w' ⟨a, b⟩ => by rw [hu] at a; exact ⟨a, b⟩
  · rw [if_pos he]
    exact (uintT_no r s at_ e w h he).mono fun e' w' ⟨a, b⟩ => by subst a; subst b; exact .same h
theorem textT_spec (r : Nat) (s : List UInt8) (at_ : Nat) (e : Int) (w : World) (h : Rr w r s at_ e) (hs : s.length ≤ 1099511627776) (ha : at_ ≤ s.length) :
    Calls Try.prog 44 #[.pointer (some ⟨r, 0, none⟩), .func (.func 45) #[.pointer (some ⟨r, 0, none⟩)] #[]] w (MethP r s (.string ⟨(textR s at_ e).1.toArray⟩) (textR s at_ e).2.1 (textR s at_ e).2.2 w) := by
  unfold textR
  by_cases he : e = 0
  · subst he
    rw [if_neg (by simp)]
    cases hu : Cd.readText s at_ with
    | none => exact textT_bad r s at_ w h fun w1 hc => (rtext_spec r s at_ w1 hc hs ha).mono fun e' w' ⟨a, b⟩ => by rw [hu] at a; exact ⟨a, b⟩
    | some q => exact textT_ok r s at_ w h q.1 q.2 fun w1 hc => (rtext_spec r s at_ w1 hc hs ha).mono fun e' w' ⟨a, b⟩ => by rw [hu] at a; exact ⟨a, b⟩
  · rw [if_pos he]
    exact (textT_no r s at_ e w h he).mono fun e' w' ⟨a, b⟩ => by subst a; subst b; exact .same h
theorem intT_spec (r g : Nat) (s : List UInt8) (at_ : Nat) (e : Int) (w : World) (h : Rr w r s at_ e) (hg : w.cell? ⟨g, 0, none⟩ = some (.pointer (some ⟨r, 0, none⟩))) (hs : s.length ≤ 1099511627776) (ha : at_ ≤ s.length) :
    Calls Try.prog 40 #[.pointer (some ⟨r, 0, none⟩), .func (.func 42) #[] #[.pointer (some ⟨g, 0, none⟩)]] w (MethP r s (.int .i64 (intR s at_ e).1) (intR s at_ e).2.1 (intR s at_ e).2.2 w) := by
  unfold intR
  by_cases he : e = 0
  · subst he
    rw [if_neg (by simp)]
    cases hu : Cd.readUns s at_ with
    | none => rw [readInt_none hu]; exact intT_bad r s at_ g w h hg fun w1 hc hg1 => int1_bad r g s at_ w1 hc hg1 hs ha hu
    | some q => rw [readInt_some hu]; exact intT_ok r s at_ g w h hg _ q.2 fun w1 hc hg1 => int1_ok r g s at_ q.1 q.2 w1 hc hg1 hs ha hu
  · rw [if_pos he]
    exact (intT_no r s at_ e g w h he).mono fun e' w' ⟨a, b⟩ => by subst a; subst b; exact .same h
theorem countT_spec (r g m : Nat) (s : List UInt8) (at_ : Nat) (e most : Int) (w : World) (h : Rr w r s at_ e) (hg : w.cell? ⟨g, 0, none⟩ = some (.pointer (some ⟨r, 0, none⟩))) (hm : w.cell? ⟨m, 0, none⟩ = some (.int .i64 most)) (hs : s.length ≤ 1099511627776) (ha : at_ ≤ s.length) :
    Calls Try.prog 40 #[.pointer (some ⟨r, 0, none⟩), .func (.func 56) #[] #[.pointer (some ⟨g, 0, none⟩), .pointer (some ⟨m, 0, none⟩)]] w (MethP r s (.int .i64 (countR s at_ e most).1) (countR s at_ e most).2.1 (countR s at_ e most).2.2 w) := by
  unfold countR
  by_cases he : e = 0
  · subst he
    rw [if_neg (by simp)]
    cases hu : Cd.readUint s at_ with
    | none => rw [readCount_none hu]; exact countT_bad r s at_ g m most w h hg hm fun w1 hc hg1 hm1 => count1_bad r g m s at_ most w1 hc hg1 hm1 hs ha hu
    | some q =>
      by_cases hq : (q.1 : Int) ≤ most
      · rw [readCount_some hu hq]; exact countT_ok r s at_ g m most w h hg hm _ q.2 fun w1 hc hg1 hm1 => count1_ok r g m s at_ q.1 q.2 most w1 hc hg1 hm1 hs ha hu true (by simpa using hq)
      · rw [readCount_big hu hq]
        exact countT_bad r s at_ g m most w h hg hm fun w1 hc hg1 hm1 => (count1_ok r g m s at_ q.1 q.2 most w1 hc hg1 hm1 hs ha hu false (by simpa using hq)).mono fun e' w' ⟨a, b⟩ => ⟨⟨_, _, a⟩, b⟩
  · rw [if_pos he]
    exact (countT_no r s at_ e g m most w h he).mono fun e' w' ⟨a, b⟩ => by subst a; subst b; exact .same h

theorem ruint_spec (r : Nat) (s : List UInt8) (at_ : Nat) (e : Int) (w : World) (h : Rr w r s at_ e) (hs : s.length ≤ 1099511627776) (ha : at_ ≤ s.length) :
    Calls Try.prog 21 #[.pointer (some ⟨r, 0, none⟩)] w (MethP r s (.int .i64 (uintR s at_ e).1) (uintR s at_ e).2.1 (uintR s at_ e).2.2 w) := by
  have ht := uintT_spec r s at_ e w h hs ha
  clear h
  go_enter Try.func21, Try.ntmps21
  go_wp2_with fail
  refine ht.mono ?_
  rintro e' w' ⟨rfl, h1, h2⟩
  go_wp2
  go_ret
  exact ⟨rfl, h1, h2⟩
theorem rtextm_spec (r : Nat) (s : List UInt8) (at_ : Nat) (e : Int) (w : World) (h : Rr w r s at_ e) (hs : s.length ≤ 1099511627776) (ha : at_ ≤ s.length) :
    Calls Try.prog 23 #[.pointer (some ⟨r, 0, none⟩)] w (MethP r s (.string ⟨(textR s at_ e).1.toArray⟩) (textR s at_ e).2.1 (textR s at_ e).2.2 w) := by
  have ht := textT_spec r s at_ e w h hs ha
  clear h
  go_enter Try.func23, Try.ntmps23
  go_wp2_with fail
  refine ht.mono ?_
  rintro e' w' ⟨rfl, h1, h2⟩
  go_wp2
  go_ret
  exact ⟨rfl, h1, h2⟩
theorem mod_alloc_first {S : Nat → Prop} {w w' : World} (o : Obj) (h : Mod S (w.alloc o) w') : Mod S w w' :=
  ((Mod.refl S w).alloc o).trans' h (fun _ _ h => h)
theorem rint_spec (r : Nat) (s : List UInt8) (at_ : Nat) (e : Int) (w : World) (h : Rr w r s at_ e) (hs : s.length ≤ 1099511627776) (ha : at_ ≤ s.length) :
    Calls Try.prog 22 #[.pointer (some ⟨r, 0, none⟩)] w (MethP r s (.int .i64 (intR s at_ e).1) (intR s at_ e).2.1 (intR s at_ e).2.2 w) := by
  have ht := fun o hg => intT_spec r w.heap.size s at_ e (w.alloc o) (Blk.alloc h _) hg hs ha
  clear h
  go_enter Try.func22, Try.ntmps22
  go_wp2_with fail
  refine (ht _ (one_new _ _ _)).mono ?_
  rintro e' w' ⟨rfl, h1, h2⟩
  go_wp2
  go_ret
  exact ⟨rfl, h1, mod_alloc_first _ h2⟩
theorem rcount_spec (r : Nat) (s : List UInt8) (at_ : Nat) (e most : Int) (w : World) (h : Rr w r s at_ e) (hs : s.length ≤ 1099511627776) (ha : at_ ≤ s.length) :
    Calls Try.prog 52 #[.pointer (some ⟨r, 0, none⟩), .int .i64 most] w (MethP r s (.int .i64 (countR s at_ e most).1) (countR s at_ e most).2.1 (countR s at_ e most).2.2 w) := by
  have ht := fun o1 o2 hg hm => countT_spec r w.heap.size (w.heap.size + 1) s at_ e most ((w.alloc o1).alloc o2) (Blk.alloc (Blk.alloc h _) _) hg hm hs ha
  clear h
  go_enter Try.func52, Try.ntmps52
  go_wp2_with fail
  refine (ht _ _ ?_ ?_).mono ?_
  · exact below_cell ((Below.refl _ _).alloc (Nat.le_refl _) _) (one_new _ _ _)
  · simp
  · rintro e' w' ⟨rfl, h1, h2⟩
    go_wp2
    go_ret
    exact ⟨rfl, h1, mod_alloc_first _ (mod_alloc_first _ h2)⟩
end Go.Proofs.Ytalailodnmfmlaa
