/-
  'result' of the law: the result of one call of a reader. Conditions: the offset lies in the string, the string has at most 2^40 bytes.
-/
import Derived.Test.YtalailodnmfmlaaCodecAw
namespace Go.Proofs.Ytalailodnmfmlaa
set_option linter.unusedVariables false
open Go.RowKit

/-- what one call of a reader answers and leaves: number, text, list, offset, error -/
structure Ans where
  num : Int
  text : List UInt8
  list : List (List UInt8)
  off : Nat
  err : Int
def callR (s : List UInt8) (at_ : Nat) (e kind num : Int) : Ans :=
  if kind = 0 then ⟨(uintR s at_ e).1, [], [], (uintR s at_ e).2.1, (uintR s at_ e).2.2⟩
  else if kind = 1 then ⟨(intR s at_ e).1, [], [], (intR s at_ e).2.1, (intR s at_ e).2.2⟩
  else if kind = 2 then ⟨0, (textR s at_ e).1, [], (textR s at_ e).2.1, (textR s at_ e).2.2⟩
  else if kind = 3 then ⟨(countR s at_ e num).1, [], [], (countR s at_ e num).2.1, (countR s at_ e num).2.2⟩
  else if kind = 4 then ⟨0, [], (textsR s at_ e).1, (textsR s at_ e).2.1, (textsR s at_ e).2.2⟩
  else if kind = 5 then ⟨0, [], [], at_, if e = 0 then num else e⟩
  else if kind = 6 then ⟨endR s at_ e, [], [], at_, e⟩
  else ⟨0, [], [], at_, e⟩

/-- what 'result' leaves -/
def ResP (r B : Nat) (s : List UInt8) (a : Ans) (w : World) (e' : Ending) (w' : World) : Prop :=
  ∃ v, e' = .returned (.agg #[.int .i64 a.num, .string ⟨a.text.toArray⟩, v, .int .i64 a.err]) ∧ w'.ownsRow B 9 1 v a.list.length (strs a.list) ∧ Rr w' r s a.off a.err ∧ Mod (fun k => k = r) w w'

theorem blk3 (w : World) (o1 o2 : Obj) (t : TypeId) (cs : Array Value) : Blk (((w.alloc o1).alloc o2).alloc (.cells cs t)) (w.heap.size + 1 + 1) t cs := by
  simpa using Blk.new ((w.alloc o1).alloc o2) t cs
theorem blk2 (w : World) (o1 o3 : Obj) (t : TypeId) (cs : Array Value) : Blk (((w.alloc o1).alloc (.cells cs t)).alloc o3) (w.heap.size + 1) t cs := by
  have := (Blk.new (w.alloc o1) t cs).alloc o3
  simpa using this

/-! ### kinds -/

theorem fail_spec (r : Nat) (s : List UInt8) (at_ : Nat) (e f : Int) (w : World) (h : Rr w r s at_ e) :
    Calls Try.prog 31 #[.pointer (some ⟨r, 0, none⟩), .int .i64 f] w (MethP r s (.tuple #[]) at_ (if e = 0 then f else e) w) := by
  by_cases he : e = 0
  · subst he
    rw [if_pos rfl]
    exact fail_ok r s at_ f w h
  · rw [if_neg he]
    exact (fail_no r s at_ e f w h he).mono fun e' w' ⟨a, b⟩ => by subst b; exact ⟨a, h, Mod.refl _ w⟩
theorem fail_spec' (r : Nat) (s : List UInt8) (at_ : Nat) (e f err : Int) (he : err = if e = 0 then f else e) (w : World) (h : Rr w r s at_ e) :
    Calls Try.prog 31 #[.pointer (some ⟨r, 0, none⟩), .int .i64 f] w (MethP r s (.tuple #[]) at_ err w) := by
  subst he; exact fail_spec r s at_ e f w h
theorem end_spec' (r : Nat) (s : List UInt8) (at_ : Nat) (e : Int) (w : World) (h : Rr w r s at_ e) :
    Calls Try.prog 27 #[.pointer (some ⟨r, 0, none⟩)] w (MethP r s (.int .i64 (endR s at_ e)) at_ e w) :=
  (end_spec r s at_ e w h).mono fun e' w' ⟨a, k, b⟩ => by subst b; exact ⟨a, h, (Mod.refl _ w).drewN k⟩

/-- behind the call: the error is laid down, and the result is copied -/
theorem res_tail {w w1 : World} {r B at' len : Nat} {s : List UInt8} {err : Int} {xs : List Value} {n t v a b c d : Value} (hB : B = w.heap.size) (hr : r < B) (h4 : Blk w1 (B + 1) 47 #[a, b, c, d]) (mm : Mod (fun k => k = r) w w1)
    (rr : Rr w1 r s at' err) (ho : w1.ownsRow B 9 1 v len xs) (hv : ∀ k, v.ownBlock = some k → B + 3 ≤ k) :
    ∀ W, W = (((((w1.setCell ⟨B + 1 + 1, 3, none⟩ (.int .i64 err)).setCell ⟨B + 1, 0, none⟩ n).setCell ⟨B + 1, 1, none⟩ t).setCell ⟨B + 1, 2, none⟩ v).setCell ⟨B + 1, 3, none⟩ (.int .i64 err)) →
      Blk W (B + 1) 47 #[n, t, v, .int .i64 err] ∧ W.ownsRow B 9 1 v len xs ∧ Rr W r s at' err ∧ Mod (fun k => k = r) w W := by
  intro W hW
  subst hW
  refine ⟨?_, ?_, ?_, ?_⟩
  · have := ((((h4.far (p := ⟨B + 1 + 1, 3, none⟩) (by show B + 1 ≠ B + 1 + 1; omega) (.int .i64 err)).set_ 0 n).set_ 1 t).set_ 2 v).set_ 3 (.int .i64 err)
    simpa using this
  · have m : Mod (fun k => k = B + 1 ∨ k = B + 1 + 1) w1 (((((w1.setCell ⟨B + 1 + 1, 3, none⟩ (.int .i64 err)).setCell ⟨B + 1, 0, none⟩ n).setCell ⟨B + 1, 1, none⟩ t).setCell ⟨B + 1, 2, none⟩ v).setCell ⟨B + 1, 3, none⟩ (.int .i64 err)) :=
      ((((((Mod.refl _ w1).setCell (p := ⟨B + 1 + 1, 3, none⟩) (fun _ => .inr rfl) _).setCell (p := ⟨B + 1, 0, none⟩) (fun _ => .inl rfl) _).setCell (p := ⟨B + 1, 1, none⟩) (fun _ => .inl rfl) _).setCell (p := ⟨B + 1, 2, none⟩) (fun _ => .inl rfl) _).setCell (p := ⟨B + 1, 3, none⟩) (fun _ => .inl rfl) _)
    exact m.owns ho (fun k hk => by have := hv k hk; omega)
  · exact ((((rr.far (p := ⟨B + 1 + 1, 3, none⟩) (by show r ≠ B + 1 + 1; omega) _).far (p := ⟨B + 1, 0, none⟩) (by show r ≠ B + 1; omega) _).far (p := ⟨B + 1, 1, none⟩) (by show r ≠ B + 1; omega) _).far (p := ⟨B + 1, 2, none⟩) (by show r ≠ B + 1; omega) _).far (p := ⟨B + 1, 3, none⟩) (by show r ≠ B + 1; omega) _
  · exact ((((mm.setCell (p := ⟨B + 1 + 1, 3, none⟩) (fun h => absurd h (by show ¬ B + 1 + 1 < w.heap.size; omega)) _).setCell (p := ⟨B + 1, 0, none⟩) (fun h => absurd h (by show ¬ B + 1 < w.heap.size; omega)) _).setCell (p := ⟨B + 1, 1, none⟩) (fun h => absurd h (by show ¬ B + 1 < w.heap.size; omega)) _).setCell (p := ⟨B + 1, 2, none⟩) (fun h => absurd h (by show ¬ B + 1 < w.heap.size; omega)) _).setCell (p := ⟨B + 1, 3, none⟩) (fun h => absurd h (by show ¬ B + 1 < w.heap.size; omega)) _


set_option maxRecDepth 20000 in
set_option maxHeartbeats 1000000 in
theorem result_0 (r : Nat) (s : List UInt8) (at_ : Nat) (e num : Int) (w : World) (h : Rr w r s at_ e) (hs : s.length ≤ 1099511627776) (ha : at_ ≤ s.length) :
    Calls Try.prog 30 #[.pointer (some ⟨r, 0, none⟩), .agg #[.int .i64 0, .int .i64 num]] w (ResP r w.heap.size s (callR s at_ e 0 num) w) := by
  have hr := Blk.lt h
  have kM := fun o1 o2 o3 => ruint_spec r s at_ e (((w.alloc o1).alloc o2).alloc o3) (((Blk.alloc h _).alloc _).alloc _) hs ha
  clear h
  go_enter Try.func30, Try.ntmps30
  go_wp2_with fail
  refine (kM _ _ _).mono ?_
  clear kM
  rintro e' w1 ⟨rfl, r1, mm⟩
  have h5 := (blk3 w _ _ 47 #[.int .i64 0, .string ⟨#[]⟩, .slice none 0 0, .int .i64 0]).mod mm (fun he => by omega)
  have h4 := (blk2 w _ _ 47 #[.int .i64 0, .string ⟨#[]⟩, .slice none 0 0, .int .i64 0]).mod mm (fun he => by omega)
  have m1 := mod_alloc_first _ (mod_alloc_first _ (mod_alloc_first _ mm))
  have c50 := h5.cell 0
  have c51 := h5.cell 1
  have c52 := h5.cell 2
  have c53 := h5.cell 3
  have c40 := h4.cell 0
  have c41 := h4.cell 1
  have c42 := h4.cell 2
  have c43 := h4.cell 3
  simp at c50 c51 c52 c53 c40 c41 c42 c43
  have f5 := fun i => h5.frozen i
  have f4 := fun i => h4.frozen i
  have H := Lib.hid (And.intro h5 (And.intro h4 (And.intro m1 r1)))
  clear h5 h4 m1 r1 mm
  go_wp2_with fail
  refine (error_spec r s _ _ _ (Blk.far H.out.2.2.2 (p := ⟨w.heap.size + 1 + 1, 0, none⟩) (by show r ≠ w.heap.size + 1 + 1; omega) (.int .i64 (uintR s at_ e).1))).mono ?_
  rintro e' w2 ⟨rfl, rfl⟩
  go_wp2
  obtain ⟨hb, ho, hrr, hmm⟩ := res_tail (n := (.int .i64 (uintR s at_ e).1)) (t := (.string ⟨#[]⟩)) (v := .slice none 0 0) (xs := []) (len := 0) rfl hr (H.out.2.1.far (p := ⟨w.heap.size + 1 + 1, 0, none⟩) (by show w.heap.size + 1 ≠ w.heap.size + 1 + 1; omega) (.int .i64 (uintR s at_ e).1)) (H.out.2.2.1.setCell (p := ⟨w.heap.size + 1 + 1, 0, none⟩) (fun h => absurd h (by show ¬ w.heap.size + 1 + 1 < w.heap.size; omega)) (.int .i64 (uintR s at_ e).1)) (Blk.far H.out.2.2.2 (p := ⟨w.heap.size + 1 + 1, 0, none⟩) (by show r ≠ w.heap.size + 1 + 1; omega) (.int .i64 (uintR s at_ e).1)) (World.ownsRow_nil _ _ _ _) (by simp [Value.ownBlock]) _ rfl
  have q0 := hb.cell 0
  have q1 := hb.cell 1
  have q2 := hb.cell 2
  have q3 := hb.cell 3
  simp at q0 q1 q2 q3
  refine bodyPost_ret (v := .agg #[.int .i64 (uintR s at_ e).1, .string ⟨#[]⟩, .slice none 0 0, .int .i64 (uintR s at_ e).2.2]) (by simp [results, Try.results30, go_sem, q0, q1, q2, q3]) rfl ?_
  exact ⟨(.slice none 0 0), rfl, ho, hrr, hmm⟩


set_option maxRecDepth 20000 in
set_option maxHeartbeats 1000000 in
theorem result_1 (r : Nat) (s : List UInt8) (at_ : Nat) (e num : Int) (w : World) (h : Rr w r s at_ e) (hs : s.length ≤ 1099511627776) (ha : at_ ≤ s.length) :
    Calls Try.prog 30 #[.pointer (some ⟨r, 0, none⟩), .agg #[.int .i64 1, .int .i64 num]] w (ResP r w.heap.size s (callR s at_ e 1 num) w) := by
  have hr := Blk.lt h
  have kM := fun o1 o2 o3 => rint_spec r s at_ e (((w.alloc o1).alloc o2).alloc o3) (((Blk.alloc h _).alloc _).alloc _) hs ha
  clear h
  go_enter Try.func30, Try.ntmps30
  go_wp2_with fail
  refine (kM _ _ _).mono ?_
  clear kM
  rintro e' w1 ⟨rfl, r1, mm⟩
  have h5 := (blk3 w _ _ 47 #[.int .i64 0, .string ⟨#[]⟩, .slice none 0 0, .int .i64 0]).mod mm (fun he => by omega)
  have h4 := (blk2 w _ _ 47 #[.int .i64 0, .string ⟨#[]⟩, .slice none 0 0, .int .i64 0]).mod mm (fun he => by omega)
  have m1 := mod_alloc_first _ (mod_alloc_first _ (mod_alloc_first _ mm))
  have c50 := h5.cell 0
  have c51 := h5.cell 1
  have c52 := h5.cell 2
  have c53 := h5.cell 3
  have c40 := h4.cell 0
  have c41 := h4.cell 1
  have c42 := h4.cell 2
  have c43 := h4.cell 3
  simp at c50 c51 c52 c53 c40 c41 c42 c43
  have f5 := fun i => h5.frozen i
  have f4 := fun i => h4.frozen i
  have H := Lib.hid (And.intro h5 (And.intro h4 (And.intro m1 r1)))
  clear h5 h4 m1 r1 mm
  go_wp2_with fail
  refine (error_spec r s _ _ _ (Blk.far H.out.2.2.2 (p := ⟨w.heap.size + 1 + 1, 0, none⟩) (by show r ≠ w.heap.size + 1 + 1; omega) (.int .i64 (intR s at_ e).1))).mono ?_
  rintro e' w2 ⟨rfl, rfl⟩
  go_wp2
  obtain ⟨hb, ho, hrr, hmm⟩ := res_tail (n := (.int .i64 (intR s at_ e).1)) (t := (.string ⟨#[]⟩)) (v := .slice none 0 0) (xs := []) (len := 0) rfl hr (H.out.2.1.far (p := ⟨w.heap.size + 1 + 1, 0, none⟩) (by show w.heap.size + 1 ≠ w.heap.size + 1 + 1; omega) (.int .i64 (intR s at_ e).1)) (H.out.2.2.1.setCell (p := ⟨w.heap.size + 1 + 1, 0, none⟩) (fun h => absurd h (by show ¬ w.heap.size + 1 + 1 < w.heap.size; omega)) (.int .i64 (intR s at_ e).1)) (Blk.far H.out.2.2.2 (p := ⟨w.heap.size + 1 + 1, 0, none⟩) (by show r ≠ w.heap.size + 1 + 1; omega) (.int .i64 (intR s at_ e).1)) (World.ownsRow_nil _ _ _ _) (by simp [Value.ownBlock]) _ rfl
  have q0 := hb.cell 0
  have q1 := hb.cell 1
  have q2 := hb.cell 2
  have q3 := hb.cell 3
  simp at q0 q1 q2 q3
  refine bodyPost_ret (v := .agg #[.int .i64 (intR s at_ e).1, .string ⟨#[]⟩, .slice none 0 0, .int .i64 (intR s at_ e).2.2]) (by simp [results, Try.results30, go_sem, q0, q1, q2, q3]) rfl ?_
  exact ⟨(.slice none 0 0), rfl, ho, hrr, hmm⟩


set_option maxRecDepth 20000 in
set_option maxHeartbeats 1000000 in
theorem result_2 (r : Nat) (s : List UInt8) (at_ : Nat) (e num : Int) (w : World) (h : Rr w r s at_ e) (hs : s.length ≤ 1099511627776) (ha : at_ ≤ s.length) :
    Calls Try.prog 30 #[.pointer (some ⟨r, 0, none⟩), .agg #[.int .i64 2, .int .i64 num]] w (ResP r w.heap.size s (callR s at_ e 2 num) w) := by
  have hr := Blk.lt h
  have kM := fun o1 o2 o3 => rtextm_spec r s at_ e (((w.alloc o1).alloc o2).alloc o3) (((Blk.alloc h _).alloc _).alloc _) hs ha
  clear h
  go_enter Try.func30, Try.ntmps30
  go_wp2_with fail
  refine (kM _ _ _).mono ?_
  clear kM
  rintro e' w1 ⟨rfl, r1, mm⟩
  have h5 := (blk3 w _ _ 47 #[.int .i64 0, .string ⟨#[]⟩, .slice none 0 0, .int .i64 0]).mod mm (fun he => by omega)
  have h4 := (blk2 w _ _ 47 #[.int .i64 0, .string ⟨#[]⟩, .slice none 0 0, .int .i64 0]).mod mm (fun he => by omega)
  have m1 := mod_alloc_first _ (mod_alloc_first _ (mod_alloc_first _ mm))
  have c50 := h5.cell 0
  have c51 := h5.cell 1
  have c52 := h5.cell 2
  have c53 := h5.cell 3
  have c40 := h4.cell 0
  have c41 := h4.cell 1
  have c42 := h4.cell 2
  have c43 := h4.cell 3
  simp at c50 c51 c52 c53 c40 c41 c42 c43
  have f5 := fun i => h5.frozen i
  have f4 := fun i => h4.frozen i
  have H := Lib.hid (And.intro h5 (And.intro h4 (And.intro m1 r1)))
  clear h5 h4 m1 r1 mm
  go_wp2_with fail
  refine (error_spec r s _ _ _ (Blk.far H.out.2.2.2 (p := ⟨w.heap.size + 1 + 1, 1, none⟩) (by show r ≠ w.heap.size + 1 + 1; omega) (.string ⟨(textR s at_ e).1.toArray⟩))).mono ?_
  rintro e' w2 ⟨rfl, rfl⟩
  go_wp2
  obtain ⟨hb, ho, hrr, hmm⟩ := res_tail (n := (.int .i64 0)) (t := (.string ⟨(textR s at_ e).1.toArray⟩)) (v := .slice none 0 0) (xs := []) (len := 0) rfl hr (H.out.2.1.far (p := ⟨w.heap.size + 1 + 1, 1, none⟩) (by show w.heap.size + 1 ≠ w.heap.size + 1 + 1; omega) (.string ⟨(textR s at_ e).1.toArray⟩)) (H.out.2.2.1.setCell (p := ⟨w.heap.size + 1 + 1, 1, none⟩) (fun h => absurd h (by show ¬ w.heap.size + 1 + 1 < w.heap.size; omega)) (.string ⟨(textR s at_ e).1.toArray⟩)) (Blk.far H.out.2.2.2 (p := ⟨w.heap.size + 1 + 1, 1, none⟩) (by show r ≠ w.heap.size + 1 + 1; omega) (.string ⟨(textR s at_ e).1.toArray⟩)) (World.ownsRow_nil _ _ _ _) (by simp [Value.ownBlock]) _ rfl
  have q0 := hb.cell 0
  have q1 := hb.cell 1
  have q2 := hb.cell 2
  have q3 := hb.cell 3
  simp at q0 q1 q2 q3
  refine bodyPost_ret (v := .agg #[.int .i64 0, .string ⟨(textR s at_ e).1.toArray⟩, .slice none 0 0, .int .i64 (textR s at_ e).2.2]) (by simp [results, Try.results30, go_sem, q0, q1, q2, q3]) rfl ?_
  exact ⟨(.slice none 0 0), rfl, ho, hrr, hmm⟩


set_option maxRecDepth 20000 in
set_option maxHeartbeats 1000000 in
theorem result_3 (r : Nat) (s : List UInt8) (at_ : Nat) (e num : Int) (w : World) (h : Rr w r s at_ e) (hs : s.length ≤ 1099511627776) (ha : at_ ≤ s.length) :
    Calls Try.prog 30 #[.pointer (some ⟨r, 0, none⟩), .agg #[.int .i64 3, .int .i64 num]] w (ResP r w.heap.size s (callR s at_ e 3 num) w) := by
  have hr := Blk.lt h
  have kM := fun o1 o2 o3 => rcount_spec r s at_ e num (((w.alloc o1).alloc o2).alloc o3) (((Blk.alloc h _).alloc _).alloc _) hs ha
  clear h
  go_enter Try.func30, Try.ntmps30
  go_wp2_with fail
  refine (kM _ _ _).mono ?_
  clear kM
  rintro e' w1 ⟨rfl, r1, mm⟩
  have h5 := (blk3 w _ _ 47 #[.int .i64 0, .string ⟨#[]⟩, .slice none 0 0, .int .i64 0]).mod mm (fun he => by omega)
  have h4 := (blk2 w _ _ 47 #[.int .i64 0, .string ⟨#[]⟩, .slice none 0 0, .int .i64 0]).mod mm (fun he => by omega)
  have m1 := mod_alloc_first _ (mod_alloc_first _ (mod_alloc_first _ mm))
  have c50 := h5.cell 0
  have c51 := h5.cell 1
  have c52 := h5.cell 2
  have c53 := h5.cell 3
  have c40 := h4.cell 0
  have c41 := h4.cell 1
  have c42 := h4.cell 2
  have c43 := h4.cell 3
  simp at c50 c51 c52 c53 c40 c41 c42 c43
  have f5 := fun i => h5.frozen i
  have f4 := fun i => h4.frozen i
  have H := Lib.hid (And.intro h5 (And.intro h4 (And.intro m1 r1)))
  clear h5 h4 m1 r1 mm
  go_wp2_with fail
  refine (error_spec r s _ _ _ (Blk.far H.out.2.2.2 (p := ⟨w.heap.size + 1 + 1, 0, none⟩) (by show r ≠ w.heap.size + 1 + 1; omega) (.int .i64 (countR s at_ e num).1))).mono ?_
  rintro e' w2 ⟨rfl, rfl⟩
  go_wp2
  obtain ⟨hb, ho, hrr, hmm⟩ := res_tail (n := (.int .i64 (countR s at_ e num).1)) (t := (.string ⟨#[]⟩)) (v := .slice none 0 0) (xs := []) (len := 0) rfl hr (H.out.2.1.far (p := ⟨w.heap.size + 1 + 1, 0, none⟩) (by show w.heap.size + 1 ≠ w.heap.size + 1 + 1; omega) (.int .i64 (countR s at_ e num).1)) (H.out.2.2.1.setCell (p := ⟨w.heap.size + 1 + 1, 0, none⟩) (fun h => absurd h (by show ¬ w.heap.size + 1 + 1 < w.heap.size; omega)) (.int .i64 (countR s at_ e num).1)) (Blk.far H.out.2.2.2 (p := ⟨w.heap.size + 1 + 1, 0, none⟩) (by show r ≠ w.heap.size + 1 + 1; omega) (.int .i64 (countR s at_ e num).1)) (World.ownsRow_nil _ _ _ _) (by simp [Value.ownBlock]) _ rfl
  have q0 := hb.cell 0
  have q1 := hb.cell 1
  have q2 := hb.cell 2
  have q3 := hb.cell 3
  simp at q0 q1 q2 q3
  refine bodyPost_ret (v := .agg #[.int .i64 (countR s at_ e num).1, .string ⟨#[]⟩, .slice none 0 0, .int .i64 (countR s at_ e num).2.2]) (by simp [results, Try.results30, go_sem, q0, q1, q2, q3]) rfl ?_
  exact ⟨(.slice none 0 0), rfl, ho, hrr, hmm⟩


set_option maxRecDepth 20000 in
set_option maxHeartbeats 1000000 in
theorem result_4 (r : Nat) (s : List UInt8) (at_ : Nat) (e num : Int) (w : World) (h : Rr w r s at_ e) (hs : s.length ≤ 1099511627776) (ha : at_ ≤ s.length) :
    Calls Try.prog 30 #[.pointer (some ⟨r, 0, none⟩), .agg #[.int .i64 4, .int .i64 num]] w (ResP r w.heap.size s (callR s at_ e 4 num) w) := by
  have hr := Blk.lt h
  have kM := fun o1 o2 o3 => rtexts_spec r s at_ e (((w.alloc o1).alloc o2).alloc o3) (((Blk.alloc h _).alloc _).alloc _) hs ha
  clear h
  go_enter Try.func30, Try.ntmps30
  go_wp2_with fail
  refine (kM _ _ _).mono ?_
  clear kM
  rintro e' w1 ⟨v, rfl, ov, r1, mm⟩
  have h5 := (blk3 w _ _ 47 #[.int .i64 0, .string ⟨#[]⟩, .slice none 0 0, .int .i64 0]).mod mm (fun he => by omega)
  have h4 := (blk2 w _ _ 47 #[.int .i64 0, .string ⟨#[]⟩, .slice none 0 0, .int .i64 0]).mod mm (fun he => by omega)
  have m1 := mod_alloc_first _ (mod_alloc_first _ (mod_alloc_first _ mm))
  have c50 := h5.cell 0
  have c51 := h5.cell 1
  have c52 := h5.cell 2
  have c53 := h5.cell 3
  have c40 := h4.cell 0
  have c41 := h4.cell 1
  have c42 := h4.cell 2
  have c43 := h4.cell 3
  simp at c50 c51 c52 c53 c40 c41 c42 c43
  have f5 := fun i => h5.frozen i
  have f4 := fun i => h4.frozen i
  have hv : ∀ k, v.ownBlock = some k → w.heap.size + 3 ≤ k := fun k hk => by have := (ov.lt k hk).1; simp at this; omega
  have ov1 := owns_base (base' := w.heap.size) ov (fun k hk => by have := hv k hk; omega)
  clear ov
  obtain ⟨A, c, rfl, hc1, hc2⟩ := own_form ov1
  have HC := Lib.hid (And.intro hc1 hc2)
  clear hc1 hc2
  have HV := Lib.hid (And.intro hv ov1)
  clear hv ov1
  have H := Lib.hid (And.intro h5 (And.intro h4 (And.intro m1 r1)))
  clear h5 h4 m1 r1 mm
  go_wp2_with fail
  refine (error_spec r s _ _ _ (Blk.far H.out.2.2.2 (p := ⟨w.heap.size + 1 + 1, 2, none⟩) (by show r ≠ w.heap.size + 1 + 1; omega) (.slice A (textsR s at_ e).1.length c))).mono ?_
  rintro e' w2 ⟨rfl, rfl⟩
  go_wp2
  obtain ⟨hb, ho, hrr, hmm⟩ := res_tail (n := .int .i64 0) (t := .string ⟨#[]⟩) (v := (.slice A (textsR s at_ e).1.length c)) rfl hr (H.out.2.1.far (p := ⟨w.heap.size + 1 + 1, 2, none⟩) (by show w.heap.size + 1 ≠ w.heap.size + 1 + 1; omega) (.slice A (textsR s at_ e).1.length c)) (H.out.2.2.1.setCell (p := ⟨w.heap.size + 1 + 1, 2, none⟩) (fun h => absurd h (by show ¬ w.heap.size + 1 + 1 < w.heap.size; omega)) (.slice A (textsR s at_ e).1.length c)) (Blk.far H.out.2.2.2 (p := ⟨w.heap.size + 1 + 1, 2, none⟩) (by show r ≠ w.heap.size + 1 + 1; omega) (.slice A (textsR s at_ e).1.length c)) ((mod_set w1 (w.heap.size + 1 + 1) 2 (.slice A (textsR s at_ e).1.length c)).owns HV.out.2 (fun k hk => by have := HV.out.1 k hk; omega)) HV.out.1 _ rfl
  have q0 := hb.cell 0
  have q1 := hb.cell 1
  have q2 := hb.cell 2
  have q3 := hb.cell 3
  simp at q0 q1 q2 q3
  refine bodyPost_ret (v := .agg #[.int .i64 0, .string ⟨#[]⟩, .slice A (textsR s at_ e).1.length c, .int .i64 (textsR s at_ e).2.2]) (by simp [results, Try.results30, go_sem, q0, q1, q2, q3]) rfl ?_
  exact ⟨(.slice A (textsR s at_ e).1.length c), rfl, ho, hrr, hmm⟩


set_option maxRecDepth 20000 in
set_option maxHeartbeats 1000000 in
theorem result_5 (r : Nat) (s : List UInt8) (at_ : Nat) (e num : Int) (w : World) (h : Rr w r s at_ e) (hs : s.length ≤ 1099511627776) (ha : at_ ≤ s.length) :
    Calls Try.prog 30 #[.pointer (some ⟨r, 0, none⟩), .agg #[.int .i64 5, .int .i64 num]] w (ResP r w.heap.size s (callR s at_ e 5 num) w) := by
  have hr := Blk.lt h
  obtain ⟨err, herr⟩ : ∃ x, x = (if e = 0 then num else e) := ⟨_, rfl⟩
  have kM := fun o1 o2 o3 => fail_spec' r s at_ e num err herr (((w.alloc o1).alloc o2).alloc o3) (((Blk.alloc h _).alloc _).alloc _)
  clear h ; have HE := Lib.hid herr; clear herr
  go_enter Try.func30, Try.ntmps30
  go_wp2_with fail
  refine (kM _ _ _).mono ?_
  clear kM
  rintro e' w1 ⟨rfl, r1, mm⟩
  have h5 := (blk3 w _ _ 47 #[.int .i64 0, .string ⟨#[]⟩, .slice none 0 0, .int .i64 0]).mod mm (fun he => by omega)
  have h4 := (blk2 w _ _ 47 #[.int .i64 0, .string ⟨#[]⟩, .slice none 0 0, .int .i64 0]).mod mm (fun he => by omega)
  have m1 := mod_alloc_first _ (mod_alloc_first _ (mod_alloc_first _ mm))
  have c50 := h5.cell 0
  have c51 := h5.cell 1
  have c52 := h5.cell 2
  have c53 := h5.cell 3
  have c40 := h4.cell 0
  have c41 := h4.cell 1
  have c42 := h4.cell 2
  have c43 := h4.cell 3
  simp at c50 c51 c52 c53 c40 c41 c42 c43
  have f5 := fun i => h5.frozen i
  have f4 := fun i => h4.frozen i
  have H := Lib.hid (And.intro h5 (And.intro h4 (And.intro m1 r1)))
  clear h5 h4 m1 r1 mm
  go_wp2_with fail
  refine (error_spec r s _ _ _ H.out.2.2.2).mono ?_
  rintro e' w2 ⟨rfl, rfl⟩
  go_wp2
  obtain ⟨hb, ho, hrr, hmm⟩ := res_tail (n := (.int .i64 0)) (t := (.string ⟨#[]⟩)) (v := .slice none 0 0) (xs := []) (len := 0) rfl hr H.out.2.1 H.out.2.2.1 H.out.2.2.2 (World.ownsRow_nil _ _ _ _) (by simp [Value.ownBlock]) _ rfl
  have q0 := hb.cell 0
  have q1 := hb.cell 1
  have q2 := hb.cell 2
  have q3 := hb.cell 3
  simp at q0 q1 q2 q3
  refine bodyPost_ret (v := .agg #[.int .i64 0, .string ⟨#[]⟩, .slice none 0 0, .int .i64 err]) (by simp [results, Try.results30, go_sem, q0, q1, q2, q3]) rfl ?_
  exact ⟨(.slice none 0 0), ret_eq (by rw [HE.out]; rfl), ho, by rw [show (callR s at_ e 5 num).err = err from HE.out.symm]; exact hrr, hmm⟩


set_option maxRecDepth 20000 in
set_option maxHeartbeats 1000000 in
theorem result_6 (r : Nat) (s : List UInt8) (at_ : Nat) (e num : Int) (w : World) (h : Rr w r s at_ e) (hs : s.length ≤ 1099511627776) (ha : at_ ≤ s.length) :
    Calls Try.prog 30 #[.pointer (some ⟨r, 0, none⟩), .agg #[.int .i64 6, .int .i64 num]] w (ResP r w.heap.size s (callR s at_ e 6 num) w) := by
  have hr := Blk.lt h
  have kM := fun o1 o2 o3 => end_spec' r s at_ e (((w.alloc o1).alloc o2).alloc o3) (((Blk.alloc h _).alloc _).alloc _)
  clear h
  go_enter Try.func30, Try.ntmps30
  go_wp2_with fail
  refine (kM _ _ _).mono ?_
  clear kM
  rintro e' w1 ⟨rfl, r1, mm⟩
  have h5 := (blk3 w _ _ 47 #[.int .i64 0, .string ⟨#[]⟩, .slice none 0 0, .int .i64 0]).mod mm (fun he => by omega)
  have h4 := (blk2 w _ _ 47 #[.int .i64 0, .string ⟨#[]⟩, .slice none 0 0, .int .i64 0]).mod mm (fun he => by omega)
  have m1 := mod_alloc_first _ (mod_alloc_first _ (mod_alloc_first _ mm))
  have c50 := h5.cell 0
  have c51 := h5.cell 1
  have c52 := h5.cell 2
  have c53 := h5.cell 3
  have c40 := h4.cell 0
  have c41 := h4.cell 1
  have c42 := h4.cell 2
  have c43 := h4.cell 3
  simp at c50 c51 c52 c53 c40 c41 c42 c43
  have f5 := fun i => h5.frozen i
  have f4 := fun i => h4.frozen i
  have H := Lib.hid (And.intro h5 (And.intro h4 (And.intro m1 r1)))
  clear h5 h4 m1 r1 mm
  go_wp2_with fail
  refine (error_spec r s _ _ _ (Blk.far H.out.2.2.2 (p := ⟨w.heap.size + 1 + 1, 0, none⟩) (by show r ≠ w.heap.size + 1 + 1; omega) (.int .i64 (endR s at_ e)))).mono ?_
  rintro e' w2 ⟨rfl, rfl⟩
  go_wp2
  obtain ⟨hb, ho, hrr, hmm⟩ := res_tail (n := (.int .i64 (endR s at_ e))) (t := (.string ⟨#[]⟩)) (v := .slice none 0 0) (xs := []) (len := 0) rfl hr (H.out.2.1.far (p := ⟨w.heap.size + 1 + 1, 0, none⟩) (by show w.heap.size + 1 ≠ w.heap.size + 1 + 1; omega) (.int .i64 (endR s at_ e))) (H.out.2.2.1.setCell (p := ⟨w.heap.size + 1 + 1, 0, none⟩) (fun h => absurd h (by show ¬ w.heap.size + 1 + 1 < w.heap.size; omega)) (.int .i64 (endR s at_ e))) (Blk.far H.out.2.2.2 (p := ⟨w.heap.size + 1 + 1, 0, none⟩) (by show r ≠ w.heap.size + 1 + 1; omega) (.int .i64 (endR s at_ e))) (World.ownsRow_nil _ _ _ _) (by simp [Value.ownBlock]) _ rfl
  have q0 := hb.cell 0
  have q1 := hb.cell 1
  have q2 := hb.cell 2
  have q3 := hb.cell 3
  simp at q0 q1 q2 q3
  refine bodyPost_ret (v := .agg #[.int .i64 (endR s at_ e), .string ⟨#[]⟩, .slice none 0 0, .int .i64 e]) (by simp [results, Try.results30, go_sem, q0, q1, q2, q3]) rfl ?_
  exact ⟨(.slice none 0 0), rfl, ho, hrr, hmm⟩


set_option maxRecDepth 20000 in
set_option maxHeartbeats 1000000 in
theorem result_d (kind : Int) (hk0 : kind ≠ 0) (hk1 : kind ≠ 1) (hk2 : kind ≠ 2) (hk3 : kind ≠ 3) (hk4 : kind ≠ 4) (hk5 : kind ≠ 5) (hk6 : kind ≠ 6) (r : Nat) (s : List UInt8) (at_ : Nat) (e num : Int) (w : World) (h : Rr w r s at_ e) (hs : s.length ≤ 1099511627776) (ha : at_ ≤ s.length) :
    Calls Try.prog 30 #[.pointer (some ⟨r, 0, none⟩), .agg #[.int .i64 kind, .int .i64 num]] w (ResP r w.heap.size s (callR s at_ e kind num) w) := by
  have hr := Blk.lt h
  have hcall : callR s at_ e kind num = ⟨0, [], [], at_, e⟩ := by simp [callR, hk0, hk1, hk2, hk3, hk4, hk5, hk6]
  rw [hcall]
  clear hcall
  have q0 : (kind == 0) = false := by simpa using hk0
  have q1 : (kind == 1) = false := by simpa using hk1
  have q2 : (kind == 2) = false := by simpa using hk2
  have q3 : (kind == 3) = false := by simpa using hk3
  have q4 : (kind == 4) = false := by simpa using hk4
  have q5 : (kind == 5) = false := by simpa using hk5
  have q6 : (kind == 6) = false := by simpa using hk6
  clear hk0 hk1 hk2 hk3 hk4 hk5 hk6
  have HR := Lib.hid h; clear h
  go_enter Try.func30, Try.ntmps30
  go_wp2_with fail
  refine (error_spec r s _ _ _ (((Blk.alloc HR.out _).alloc _).alloc _)).mono ?_
  rintro e' w2 ⟨rfl, hw2⟩
  have h5 : Blk w2 (w.heap.size + 1 + 1) 47 #[.int .i64 0, .string ⟨#[]⟩, .slice none 0 0, .int .i64 0] := by rw [← hw2]; exact blk3 w _ _ _ _
  have h4 : Blk w2 (w.heap.size + 1) 47 #[.int .i64 0, .string ⟨#[]⟩, .slice none 0 0, .int .i64 0] := by rw [← hw2]; exact blk2 w _ _ _ _
  have m1 : Mod (fun k => k = r) w w2 := by rw [← hw2]; exact mod_alloc_first _ (mod_alloc_first _ (mod_alloc_first _ (Mod.refl _ _)))
  have r1 : Rr w2 r s at_ e := by rw [← hw2]; exact ((Blk.alloc HR.out _).alloc _).alloc _
  clear hw2
  have c50 := h5.cell 0
  have c51 := h5.cell 1
  have c52 := h5.cell 2
  have c53 := h5.cell 3
  have c40 := h4.cell 0
  have c41 := h4.cell 1
  have c42 := h4.cell 2
  have c43 := h4.cell 3
  simp at c50 c51 c52 c53 c40 c41 c42 c43
  have f5 := fun i => h5.frozen i
  have f4 := fun i => h4.frozen i
  have H := Lib.hid (And.intro h5 (And.intro h4 (And.intro m1 r1)))
  clear h5 h4 m1 r1
  go_wp2
  obtain ⟨hb, ho, hrr, hmm⟩ := res_tail (n := .int .i64 0) (t := .string ⟨#[]⟩) (v := .slice none 0 0) (xs := []) (len := 0) rfl hr H.out.2.1 H.out.2.2.1 H.out.2.2.2 (World.ownsRow_nil _ _ _ _) (by simp [Value.ownBlock]) _ rfl
  have q0 := hb.cell 0
  have q1 := hb.cell 1
  have q2 := hb.cell 2
  have q3 := hb.cell 3
  simp at q0 q1 q2 q3
  refine bodyPost_ret (v := .agg #[.int .i64 0, .string ⟨#[]⟩, .slice none 0 0, .int .i64 e]) (by simp [results, Try.results30, go_sem, q0, q1, q2, q3]) rfl ?_
  exact ⟨(.slice none 0 0), rfl, ho, hrr, hmm⟩


theorem result_spec (r : Nat) (s : List UInt8) (at_ : Nat) (e kind num : Int) (w : World) (h : Rr w r s at_ e) (hs : s.length ≤ 1099511627776) (ha : at_ ≤ s.length) :
    Calls Try.prog 30 #[.pointer (some ⟨r, 0, none⟩), .agg #[.int .i64 kind, .int .i64 num]] w (ResP r w.heap.size s (callR s at_ e kind num) w) := by
  by_cases h0 : kind = 0
  · subst h0; exact result_0 r s at_ e num w h hs ha
  by_cases h1 : kind = 1
  · subst h1; exact result_1 r s at_ e num w h hs ha
  by_cases h2 : kind = 2
  · subst h2; exact result_2 r s at_ e num w h hs ha
  by_cases h3 : kind = 3
  · subst h3; exact result_3 r s at_ e num w h hs ha
  by_cases h4 : kind = 4
  · subst h4; exact result_4 r s at_ e num w h hs ha
  by_cases h5 : kind = 5
  · subst h5; exact result_5 r s at_ e num w h hs ha
  by_cases h6 : kind = 6
  · subst h6; exact result_6 r s at_ e num w h hs ha
  exact result_d kind h0 h1 h2 h3 h4 h5 h6 r s at_ e num w h hs ha
theorem callR_le {s : List UInt8} {at_ : Nat} {e kind num : Int} (ha : at_ ≤ s.length) : (callR s at_ e kind num).off ≤ s.length := by
  unfold callR
  split; · exact uintR_le ha
  split; · exact intR_le ha
  split; · exact textR_le ha
  split; · exact countR_le ha
  split; · exact textsR_le ha
  split; · exact ha
  split; · exact ha
  exact ha
end Go.Proofs.Ytalailodnmfmlaa
