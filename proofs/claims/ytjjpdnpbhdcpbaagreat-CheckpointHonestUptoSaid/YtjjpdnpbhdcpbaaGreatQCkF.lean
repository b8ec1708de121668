/-
  Checkpoints: rows of a key and a signature, and following rotations in the program. Conditions: none.
-/
import Derived.Test.YtjjpdnpbhdcpbaaGreatQCkE
import Derived.Test.YtjjpdnpbhdcpbaaGreatQPa
namespace Go.Proofs.YtjjpdnpbhdcpbaaGreat
set_option linter.unusedVariables false
open Go.RowKit Go.Shelf
attribute [local go_sem] Oper.semAt_some
structure SgRow where
 key : Sg.Str
 i : Int
 A : Option Addr
 C : List Sg.Str
 a : Nat
 B : Option Addr
 T : List Sg.Str
 b : Nat
def rowC (x : SgRow) : List Value := [.string ⟨x.key.toArray⟩, .int .i64 x.i, .slice x.A x.C.length x.a, .slice x.B x.T.length x.b]
def RowOk (w : World) (x : SgRow) : Prop := Rd w x.A (strs x.C) ∧ Rd w x.B (strs x.T) ∧ x.C.length ≤ x.a ∧ x.a ≤ maxLen ∧ x.T.length ≤ x.b ∧ x.b ≤ maxLen
def RowsR (w : World) (X : Option Addr) (L : List SgRow) : Prop := Rd w X (L.flatMap rowC) ∧ ∀ x ∈ L, RowOk w x
theorem RowOk.below {w w' : World} {x : SgRow} (h : RowOk w x) (hb : Below w.heap.size w w') : RowOk w' x := ⟨h.1.below hb, h.2.1.below hb, h.2.2⟩
theorem RowsR.below {w w' : World} {X : Option Addr} {L : List SgRow} (h : RowsR w X L) (hb : Below w.heap.size w w') : RowsR w' X L := ⟨h.1.below hb, fun x hx => (h.2 x hx).below hb⟩
theorem RowsR.get {w : World} {X : Option Addr} {L : List SgRow} (h : RowsR w X L) {k : Nat} (hk : k < L.length) :
 ∃ b off, X = some ⟨b, off, none⟩ ∧ w.cell? ⟨b, off + k * 4, none⟩ = some (.string ⟨L[k].key.toArray⟩) ∧ w.cell? ⟨b, off + k * 4 + 1, none⟩ = some (.int .i64 L[k].i) ∧ w.cell? ⟨b, off + k * 4 + 2, none⟩ = some (.slice L[k].A L[k].C.length L[k].a) ∧ w.cell? ⟨b, off + k * 4 + 3, none⟩ = some (.slice L[k].B L[k].T.length L[k].b) ∧ RowOk w L[k] := by
 have hl := flat_len rowC 4 (fun _ => rfl) L
 have hg := fun j (hj : j < 4) => flat_get rowC 4 (fun _ => rfl) L k j hk hj
 rcases h.1 with h0 | ⟨b, off, hA, hc⟩
 ·rw [h0, List.length_nil] at hl
  omega
 ·have hcc : ∀ j (hj : j < 4) u, (rowC L[k])[j]? = some u → w.cell? ⟨b, off + k * 4 + j, none⟩ = some u := fun j hj u hu => by
   have h1 := hg j hj
   rw [hu] at h1
   obtain ⟨hlt, he⟩ := List.getElem?_eq_some_iff.1 h1
   rw [Nat.add_assoc, hc _ hlt, he]
  exact ⟨b, off, hA, hcc 0 (by decide) _ rfl, hcc 1 (by decide) _ rfl, hcc 2 (by decide) _ rfl, hcc 3 (by decide) _ rfl, h.2 _ (List.getElem_mem hk)⟩
def flwR (key : Sg.Str) : List SgRow → Sg.Str × Int
 | [] => (key, 0)
 | x :: L => if vpB x.key = true then (if verB key (Sg.dgs (6 :: x.key)) x.i x.C x.T = true then flwR x.key L else ([], 18)) else ([], 18)
def followR (key : Sg.Str) (L : List SgRow) : Sg.Str × Int := if L.length ≤ 1024 then flwR key L else ([], 7)
theorem flw_drop (key : Sg.Str) (L : List SgRow) (k : Nat) (hk : k < L.length) : flwR key (L.drop k) = if vpB L[k].key = true then (if verB key (Sg.dgs (6 :: L[k].key)) L[k].i L[k].C L[k].T = true then flwR L[k].key (L.drop (k + 1)) else ([], 18)) else ([], 18) := by
 rw [List.drop_eq_getElem_cons hk]
 rfl
set_option maxRecDepth 20000 in
set_option maxHeartbeats 4000000 in
theorem follow_spec (key : Sg.Str) (X : Option Addr) (L : List SgRow) (c : Nat) (w : World) (hR : RowsR w X L) :
 Calls Tryz.prog 24 #[.string ⟨key.toArray⟩, .slice X L.length c] w fun e w' => e = .returned (.tuple #[.string ⟨(followR key L).1.toArray⟩, .int .i64 (followR key L).2]) ∧ Below w.heap.size w w' := by
 obtain ⟨N, hN⟩ : ∃ N, L.length = N := ⟨_, rfl⟩
 unfold followR
 rw [hN]
 by_cases hl : N ≤ 1024
 ·rw [if_pos hl]
  have hl' : ¬ ((1024 : Int) < (N : Int)) := by omega
  obtain ⟨res, hres⟩ : ∃ res, flwR key L = res := ⟨_, rfl⟩
  rw [hres]
  have HL := Lib.hid (And.intro hN (And.intro hR hres))
  clear hR hres hN
  go_enter Tryz.func24, Tryz.ntmps24
  go_wp2_with fail
  go_loopw [13, 0] (fun i kv wr => ∃ (k : Nat) (key' : Sg.Str), k ≤ N ∧ i = .int .i64 k ∧ kv = .string ⟨key'.toArray⟩ ∧ flwR key' (L.drop k) = res ∧ Below w.heap.size w wr) (fun i _ _ => N - (intOf i).toNat)
  case atStart => exact ⟨0, key, Nat.zero_le _, rfl, rfl, HL.out.2.2, Below.refl _ _⟩
  case round =>
   obtain ⟨k, key', hk, rfl, rfl, hf, hb⟩ := hrel
   by_cases hlt : k < N
   ·have hkL : k < L.length := by rw [HL.out.1]; exact hlt
    obtain ⟨b, off, rfl, c0, c1, c2, c3, ok⟩ := (HL.out.2.1.below hb).get hkL
    rw [flw_drop key' L k hkL] at hf
    obtain ⟨x, hx⟩ : ∃ x, L[k] = x := ⟨_, rfl⟩
    rw [hx] at c0 c1 c2 c3 ok hf
    obtain ⟨ky, i, A, C, a, B, T, b'⟩ := x
    dsimp only at c0 c1 c2 c3 hf
    have i0 : (0 : Int) ≤ (k : Int) := Int.natCast_nonneg _
    have i1 : (k : Int) < (N : Int) := Int.ofNat_lt.2 hlt
    have kp := fun W' => ckpub_spec ky W'
    have HB := Lib.hid hb
    have ya := Lib.hid ((Below.refl wr.heap.size wr).alloc (Nat.le_refl _) (.cells #[.string ⟨ky.toArray⟩, .int .i64 i, .slice A C.length a, .slice B T.length b'] 41))
    cases hv : vpB ky with
    | false =>
      rw [hv] at kp
      rw [hv, if_neg (by decide)] at hf
      subst hf
      clear ok hx hv hb hkL
      go_wp2_with fail
      refine (kp _).mono ?_
      rintro e w1 ⟨rfl, rfl⟩
      go_wp2
      go_ret2
      exact ⟨rfl, HB.out.trans (ya.out.mono HB.out.size)⟩
    | true =>
      rw [hv] at kp
      rw [hv, if_pos rfl] at hf
      have hky := vpB_len hv
      obtain ⟨W0, hW0⟩ : ∃ W0, wr.alloc (.cells #[.string ⟨ky.toArray⟩, .int .i64 i, .slice A C.length a, .slice B T.length b'] 41) = W0 := ⟨_, rfl⟩
      have kv := verify_spec key' (6 :: ky) i C T A B a b' W0 (by rw [List.length_cons, hky]; decide) (by rw [← hW0]; exact ok.1.below ya.out) (by rw [← hW0]; exact ok.2.1.below ya.out) ok.2.2.1 ok.2.2.2.1 ok.2.2.2.2.1 ok.2.2.2.2.2
      rw [← hW0] at kv
      clear hW0
      have g1 := cons_bytes 6 ky
      obtain ⟨f1, f2⟩ := sg_cat [6] ky (by rw [List.length_singleton, hky]; decide)
      rw [List.length_singleton] at f1 f2
      cases hw : verB key' (Sg.dgs (6 :: ky)) i C T with
      | false =>
        rw [hw] at kv
        rw [hw, if_neg (by decide)] at hf
        subst hf
        clear ok hx hv hb hkL hw hky
        go_wp2_with fail
        refine (kp _).mono ?_
        rintro e w1 ⟨rfl, rfl⟩
        go_wp2_with fail
        refine kv.mono ?_
        rintro e w2 ⟨rfl, b2⟩
        have y2 := Lib.hid (ya.out.trans (b2.mono ya.out.size))
        clear b2 kv
        go_wp2
        go_ret2
        exact ⟨rfl, HB.out.trans (y2.out.mono HB.out.size)⟩
      | true =>
        rw [hw] at kv
        rw [hw, if_pos rfl] at hf
        have HF := Lib.hid hf
        clear ok hx hv hb hkL hw hky hf
        go_wp2_with fail
        refine (kp _).mono ?_
        rintro e w1 ⟨rfl, rfl⟩
        go_wp2_with fail
        refine kv.mono ?_
        rintro e w2 ⟨rfl, b2⟩
        have y2 := Lib.hid (ya.out.trans (b2.mono ya.out.size))
        have e0 := below_cell b2 ((Blk.new wr 41 #[.string ⟨ky.toArray⟩, .int .i64 i, .slice A C.length a, .slice B T.length b']).cell 0)
        clear b2 kv
        go_wp2
        go_roundw
        case rel => exact ⟨k + 1, ky, by omega, by go_num, rfl, HF.out, HB.out.trans (y2.out.mono HB.out.size)⟩
        case measure => simp [intOf]; omega
   ·obtain rfl : k = N := Nat.le_antisymm hk (Nat.le_of_not_lt hlt)
    rw [List.drop_eq_nil_of_le (by rw [HL.out.1]; exact Nat.le_refl _)] at hf
    subst hf
    have HB := Lib.hid hb
    clear hb
    go_wp2
    go_ret2
    exact ⟨rfl, HB.out⟩
 ·rw [if_neg hl]
  have hl' : (1024 : Int) < (N : Int) := by omega
  clear hR hN
  go_enter Tryz.func24, Tryz.ntmps24
  go_wp2
  go_ret2
  exact ⟨rfl, Below.refl _ _⟩
end Go.Proofs.YtjjpdnpbhdcpbaaGreat
