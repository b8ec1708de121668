/-
  What Encode and Decode return, in the program. Conditions: indices below 2^63; strings of at most 2^40 bytes.
-/
import Derived.Test.YtnlpakalcckaiaaSgJ
import Derived.Test.YtnlpakalcckaiaaCdB
import Derived.Test.YtnlpakalcckaiaaCdA
namespace Go.Proofs.Ytnlpakalcckaiaa
set_option linter.unusedVariables false
open Go.RowKit Go.Shelf
attribute [local go_sem] Oper.semAt_some

theorem rd_ints1 (W : World) (a : Nat) : Rd (W.alloc (.cells #[.int .i64 (a : Int)] 3)) (some ⟨W.heap.size, 0, none⟩) (nints [a]) := rd_new W _ _
/-- a signature can be encoded -/
def okB (i : Int) (C T : List Sg.Str) : Bool :=
  if 0 ≤ i then if C.length = 67 then if T.length ≤ 6 then if vld C = true then vld T else false else false else false else false
def encS (i : Int) (C T : List Sg.Str) : Sg.Str := Cd.uns i.toNat ++ Cd.texts C ++ Cd.texts T
def encE (i : Int) (C T : List Sg.Str) : Sg.Str × Int := if okB i C T = true then (encS i C T, 0) else ([], 1)
theorem vld_body {L : List Sg.Str} (h : vld L = true) (hl : L.length ≤ 1000000) : (Cd.body L).length ≤ 1000000000 := by
  have h1 : ∀ s ∈ L, s.length = 32 := (vld_iff L).1 h
  have h2 := flat_le (fun s : Sg.Str => Cd.text (s.take 32)) 42 (fun s => by
    have h3 := Cd.uns_len (s.take 32).length
    have h4 : (s.take 32).length ≤ 32 := by rw [List.length_take]; omega
    unfold Cd.text
    rw [List.length_append]
    omega) L
  have h3 : (L.map (fun s : Sg.Str => Cd.text (s.take 32))).flatten = Cd.body L := by
    unfold Cd.body
    congr 1
    refine List.map_congr_left fun s hs => ?_
    rw [List.take_of_length_le (Nat.le_of_eq (h1 s hs))]
  rw [h3] at h2
  omega
set_option maxRecDepth 20000 in
set_option maxHeartbeats 4000000 in
theorem encode_spec (i : Int) (C T : List Sg.Str) (A B : Option Addr) (cC cT : Nat) (w : World) (hi : i < 9223372036854775808) (hC : Rd w A (strs C)) (hT : Rd w B (strs T)) (h1 : C.length ≤ cC) (h2 : cC ≤ maxLen) (h3 : T.length ≤ cT) (h4 : cT ≤ maxLen) :
    Calls Try.prog 11 #[.agg #[.int .i64 i, .slice A C.length cC, .slice B T.length cT]] w fun e w' => e = .returned (.tuple #[.string ⟨(encE i C T).1.toArray⟩, .int .i64 (encE i C T).2]) ∧ Below w.heap.size w w' := by
  have f3 : ¬ (IntKind.i64.max < (C.length : Int)) := by unfold maxLen at h2; show ¬ ((9223372036854775807 : Int) < _); omega
  have f4 : ¬ (IntKind.i64.max < (T.length : Int)) := by unfold maxLen at h4; show ¬ ((9223372036854775807 : Int) < _); omega
  unfold encE okB
  obtain ⟨W, hW⟩ : ∃ W, w.alloc (.cells #[.int .i64 i, .slice A C.length cC, .slice B T.length cT] 33) = W := ⟨_, rfl⟩
  have b0 : Below w.heap.size w W := by rw [← hW]; exact (Below.refl _ w).alloc (Nat.le_refl _) _
  have bl : Blk W w.heap.size 33 #[.int .i64 i, .slice A C.length cC, .slice B T.length cT] := by rw [← hW]; exact Blk.new w _ _
  have k0 := bl.cell 0
  have k1 := bl.cell 1
  have k2 := bl.cell 2
  have kc := contains_func 28 (enters_of Try.func28 (by kernel_rfl) rfl) undigested_spec A C cC W (hC.below b0) (by unfold maxLen at h2; omega)
  have kt := contains_func 28 (enters_of Try.func28 (by kernel_rfl) rfl) undigested_spec B T cT W (hT.below b0) (by unfold maxLen at h4; omega)
  go_enter Try.func11, Try.ntmps11
  by_cases c1 : 0 ≤ i
  · rw [if_pos c1]
    have c1' : ¬ (i < 0) := by omega
    by_cases c2 : C.length = 67
    · rw [if_pos c2]
      rw [c2] at k1 f3 hW bl h1 kc ⊢
      by_cases c3 : T.length ≤ 6
      · rw [if_pos c3]
        have c3' : ¬ ((6 : Int) < (T.length : Int)) := by omega
        cases c4 : vld C with
        | false =>
          rw [c4] at kc
          rw [if_neg (by simp)]
          clear c4
          go_wp2_with fail
          refine kc.mono ?_
          rintro e w1 ⟨rfl, rfl⟩
          go_wp2
          go_ret2
          exact ⟨rfl, b0⟩
        | true =>
          rw [c4] at kc
          rw [if_pos rfl]
          cases c5 : vld T with
          | false =>
            rw [c5] at kt
            rw [if_neg (by simp)]
            clear c4 c5
            go_wp2_with fail
            refine kc.mono ?_
            rintro e w1 ⟨rfl, rfl⟩
            go_wp2_with fail
            refine kt.mono ?_
            rintro e w1 ⟨rfl, rfl⟩
            go_wp2
            go_ret2
            exact ⟨rfl, b0⟩
          | true =>
            rw [c5] at kt
            rw [if_pos rfl]
            obtain ⟨n, rfl⟩ : ∃ n : Nat, i = (n : Int) := ⟨i.toNat, by omega⟩
            unfold encS
            rw [Int.toNat_natCast]
            have hnu : Sg.nums [n] = Cd.uns n := by simp [Sg.nums]
            have kn := fun W' => numbers_spec (some ⟨W'.heap.size, 0, none⟩) [n] 1 (W'.alloc (.cells #[.int .i64 (n : Int)] 3)).drew (rd_ints1 W' n) (by simp) (fun k h => by
              match k, h with
              | 0, _ => exact (by omega : n < 9223372036854775808))
            simp only [hnu, List.length_cons, List.length_nil, Nat.zero_add] at kn
            have hbC := vld_body c4 (by omega)
            have hbT := vld_body c5 (by omega)
            have kC := fun (W' : World) (hh : Below W.heap.size W W') => texts_spec A C cC W' ((hC.below b0).below hh) (by omega) (by omega)
            have kT := fun (W' : World) (hh : Below W.heap.size W W') => texts_spec B T cT W' ((hT.below b0).below hh) (by omega) (by omega)
            rw [c2] at kC
            have hU := Cd.uns_len n
            have hX : (Cd.texts C).length ≤ 1000000010 := by
              have := Cd.uns_len C.length
              unfold Cd.texts
              rw [List.length_append]
              omega
            have hY : (Cd.texts T).length ≤ 1000000010 := by
              have := Cd.uns_len T.length
              unfold Cd.texts
              rw [List.length_append]
              omega
            generalize Cd.uns n = U at kn hU ⊢
            generalize Cd.texts C = X at kC hX ⊢
            generalize Cd.texts T = Y at kT hY ⊢
            obtain ⟨f5, f6⟩ := sg_cat U X (by omega)
            obtain ⟨f7, f8⟩ := sg_cat (U ++ X) Y (by rw [List.length_append]; omega)
            have ha1 := bytes_append U X
            have ha2 := bytes_append (U ++ X) Y
            generalize U ++ X = V at ha1 ha2 f7 f8 ⊢
            generalize V ++ Y = Z at ha2 ⊢
            have hS : ∀ W', Below W.heap.size W W' → W'.cell? ⟨w.heap.size, 0, none⟩ = some (.int .i64 (n : Int)) ∧ W'.cell? ⟨w.heap.size, 1, none⟩ = some (.slice A 67 cC) ∧ W'.cell? ⟨w.heap.size, 2, none⟩ = some (.slice B T.length cT) := fun W' hh => ⟨below_cell hh k0, below_cell hh k1, below_cell hh k2⟩
            have HS := Lib.hid hS
            have HB := Lib.hid (And.intro b0 bl)
            have y0 := (Below.refl W.heap.size W).drew
            have y9 := ((Below.refl W.heap.size W).alloc (Nat.le_refl _) (.cells #[.int .i64 (n : Int)] 3)).drew
            clear hS c4 c5 hbC hbT hnu bl b0 hC hT
            go_wp2_with fail
            refine kc.mono ?_
            rintro e w1 ⟨rfl, rfl⟩
            go_wp2_with fail
            refine kt.mono ?_
            rintro e w1 ⟨rfl, rfl⟩
            clear kc kt k0 k1 k2
            go_wp2_with fail
            refine wp_region_noPanic ?_
            refine wp_region_held_drew (S := (fun w' => w'.cell? ⟨w.heap.size, 0, none⟩ = some (.int .i64 (n : Int)) ∧ w'.cell? ⟨w.heap.size, 1, none⟩ = some (.slice A 67 cC) ∧ w'.cell? ⟨w.heap.size, 2, none⟩ = some (.slice B T.length cT))) (by kernel_rfl) ?_ (fun hH0 => ?_)
            · (first
                | exact HS.out _ y0
                | exact HS.out _ y9
                | exact HS.out _ yn
                | exact HS.out _ yC
                | exact HS.out _ yT
                | fail)
            refine wpAnyH_take (i := 0) (oi := ⟨some 29, _, _, _, _, _⟩) (v := ?_) rfl (by kernel_rfl) (by kernel_rfl) (by kernel_rfl) (fun _ _ _ h => h) (Or.inl ⟨by rfl, ?_⟩) hH0 ?_
            rotate_left 1
            · intro w hSw; (try dsimp only at hSw); go_simp; with_reducible rfl
            try simp only [Act.put, List.setIfInBounds_toArray, List.set_cons_zero, List.set_cons_succ]
            refine wpAnyH_take (i := 1) (oi := ⟨some 30, _, _, _, _, _⟩) (v := ?_) rfl (by kernel_rfl) (by kernel_rfl) (by kernel_rfl) (fun _ _ _ h => h) (Or.inl ⟨by rfl, ?_⟩) hH0 ?_
            rotate_left 1
            · intro w hSw; (try dsimp only at hSw); go_simp; with_reducible rfl
            try simp only [Act.put, List.setIfInBounds_toArray, List.set_cons_zero, List.set_cons_succ]
            refine wpAnyH_take (i := 4) (oi := ⟨some 33, _, _, _, _, _⟩) (v := ?_) rfl (by kernel_rfl) (by kernel_rfl) (by kernel_rfl) (fun _ _ _ h => h) (Or.inl ⟨by rfl, ?_⟩) hH0 ?_
            rotate_left 1
            · intro w hSw; (try dsimp only at hSw); go_simp; with_reducible rfl
            try simp only [Act.put, List.setIfInBounds_toArray, List.set_cons_zero, List.set_cons_succ]
            refine wpAnyH_take (i := 5) (oi := ⟨some 34, _, _, _, _, _⟩) (v := ?_) rfl (by kernel_rfl) (by kernel_rfl) (by kernel_rfl) (fun _ _ _ h => h) (Or.inl ⟨by rfl, ?_⟩) hH0 ?_
            rotate_left 1
            · intro w hSw; (try dsimp only at hSw); go_simp; with_reducible rfl
            try simp only [Act.put, List.setIfInBounds_toArray, List.set_cons_zero, List.set_cons_succ]
            refine wpAnyH_take (i := 8) (oi := ⟨some 37, _, _, _, _, _⟩) (v := ?_) rfl (by kernel_rfl) (by kernel_rfl) (by kernel_rfl) (fun _ _ _ h => h) (Or.inl ⟨by rfl, ?_⟩) hH0 ?_
            rotate_left 1
            · intro w hSw; (try dsimp only at hSw); go_simp; with_reducible rfl
            try simp only [Act.put, List.setIfInBounds_toArray, List.set_cons_zero, List.set_cons_succ]
            refine wpAnyH_take (i := 9) (oi := ⟨some 38, _, _, _, _, _⟩) (v := ?_) rfl (by kernel_rfl) (by kernel_rfl) (by kernel_rfl) (fun _ _ _ h => h) (Or.inl ⟨by rfl, ?_⟩) hH0 ?_
            rotate_left 1
            · intro w hSw; (try dsimp only at hSw); go_simp; with_reducible rfl
            try simp only [Act.put, List.setIfInBounds_toArray, List.set_cons_zero, List.set_cons_succ]
            refine wpAnyH_ready (rs := [2]) (by kernel_rfl) (by simp) ?_
            refine AllReadyH.cons (o := ⟨some 31, _, _, _, _, _⟩) rfl (fun K hK => ?_) AllReadyH.nil
            go_simp
            refine hK.out _ _ ?_ (fun hH1 => ?_)
            · (first
                | exact HS.out _ y0
                | exact HS.out _ y9
                | exact HS.out _ yn
                | exact HS.out _ yC
                | exact HS.out _ yT
                | fail)
            clear hK K hH0
            try simp only [Act.put, List.setIfInBounds_toArray, List.set_cons_zero, List.set_cons_succ]
            refine wpAnyH_ready (rs := [3]) (by kernel_rfl) (by simp) ?_
            refine AllReadyH.cons (o := ⟨some 32, _, _, _, _, _⟩) rfl (fun K hK => ?_) AllReadyH.nil
            go_simp; (first
                  | (with_reducible refine (kn _).mono ?_
                     rintro e v1 ⟨rfl, b1⟩
                     have yn := y9.trans (b1.mono y9.size))
                  | (with_reducible refine (kC v1 yn).mono ?_
                     rintro e v2 ⟨rfl, b2⟩
                     have yC := yn.trans (b2.mono yn.size))
                  | (with_reducible refine (kT v2 yC).mono ?_
                     rintro e v3 ⟨rfl, b3⟩
                     have yT := yC.trans (b3.mono yC.size))
                  | fail); go_wp2_with fail
            refine hK.out _ _ ?_ (fun hH2 => ?_)
            · (first
                | exact HS.out _ y0
                | exact HS.out _ y9
                | exact HS.out _ yn
                | exact HS.out _ yC
                | exact HS.out _ yT
                | fail)
            clear hK K hH1
            try simp only [Act.put, List.setIfInBounds_toArray, List.set_cons_zero, List.set_cons_succ]
            refine wpAnyH_ready (rs := [6]) (by kernel_rfl) (by simp) ?_
            refine AllReadyH.cons (o := ⟨some 35, _, _, _, _, _⟩) rfl (fun K hK => ?_) AllReadyH.nil
            go_simp; (first
                  | (with_reducible refine (kn _).mono ?_
                     rintro e v1 ⟨rfl, b1⟩
                     have yn := y9.trans (b1.mono y9.size))
                  | (with_reducible refine (kC v1 yn).mono ?_
                     rintro e v2 ⟨rfl, b2⟩
                     have yC := yn.trans (b2.mono yn.size))
                  | (with_reducible refine (kT v2 yC).mono ?_
                     rintro e v3 ⟨rfl, b3⟩
                     have yT := yC.trans (b3.mono yC.size))
                  | fail); go_wp2_with fail
            refine hK.out _ _ ?_ (fun hH3 => ?_)
            · (first
                | exact HS.out _ y0
                | exact HS.out _ y9
                | exact HS.out _ yn
                | exact HS.out _ yC
                | exact HS.out _ yT
                | fail)
            clear hK K hH2
            try simp only [Act.put, List.setIfInBounds_toArray, List.set_cons_zero, List.set_cons_succ]
            refine wpAnyH_take (i := 7) (oi := ⟨some 36, _, _, _, _, _⟩) (v := ?_) rfl (by kernel_rfl) (by kernel_rfl) (by kernel_rfl) (fun _ _ _ h => h) (Or.inl ⟨by rfl, ?_⟩) hH3 ?_
            rotate_left 1
            · intro w hSw; (try dsimp only at hSw); go_simp; with_reducible rfl
            try simp only [Act.put, List.setIfInBounds_toArray, List.set_cons_zero, List.set_cons_succ]
            refine wpAnyH_ready (rs := [10]) (by kernel_rfl) (by simp) ?_
            refine AllReadyH.cons (o := ⟨some 39, _, _, _, _, _⟩) rfl (fun K hK => ?_) AllReadyH.nil
            go_simp; (first
                  | (with_reducible refine (kn _).mono ?_
                     rintro e v1 ⟨rfl, b1⟩
                     have yn := y9.trans (b1.mono y9.size))
                  | (with_reducible refine (kC v1 yn).mono ?_
                     rintro e v2 ⟨rfl, b2⟩
                     have yC := yn.trans (b2.mono yn.size))
                  | (with_reducible refine (kT v2 yC).mono ?_
                     rintro e v3 ⟨rfl, b3⟩
                     have yT := yC.trans (b3.mono yC.size))
                  | fail); go_wp2_with fail
            refine hK.out _ _ ?_ (fun hH4 => ?_)
            · (first
                | exact HS.out _ y0
                | exact HS.out _ y9
                | exact HS.out _ yn
                | exact HS.out _ yC
                | exact HS.out _ yT
                | fail)
            clear hK K hH3
            try simp only [Act.put, List.setIfInBounds_toArray, List.set_cons_zero, List.set_cons_succ]
            refine wpAnyH_take (i := 11) (oi := ⟨some 40, _, _, _, _, _⟩) (v := ?_) rfl (by kernel_rfl) (by kernel_rfl) (by kernel_rfl) (fun _ _ _ h => h) (Or.inl ⟨by rfl, ?_⟩) hH4 ?_
            rotate_left 1
            · intro w hSw; (try dsimp only at hSw); go_simp; with_reducible rfl
            try simp only [Act.put, List.setIfInBounds_toArray, List.set_cons_zero, List.set_cons_succ]
            refine wpAnyH_take (i := 12) (oi := ⟨some 2, _, _, _, _, _⟩) (v := ?_) rfl (by kernel_rfl) (by kernel_rfl) (by kernel_rfl) (fun _ _ _ h => h) (Or.inl ⟨by rfl, ?_⟩) hH4 ?_
            rotate_left 1
            · intro w hSw; (try dsimp only at hSw); go_simp; with_reducible rfl
            try simp only [Act.put, List.setIfInBounds_toArray, List.set_cons_zero, List.set_cons_succ]
            refine wpAnyH_take (i := 13) (oi := ⟨some 3, _, _, _, _, _⟩) (v := ?_) rfl (by kernel_rfl) (by kernel_rfl) (by kernel_rfl) (fun _ _ _ h => h) (Or.inl ⟨by rfl, ?_⟩) hH4 ?_
            rotate_left 1
            · intro w hSw; (try dsimp only at hSw); go_simp; with_reducible rfl
            try simp only [Act.put, List.setIfInBounds_toArray, List.set_cons_zero, List.set_cons_succ]
            refine wpAnyH_done (by kernel_rfl) ?_ _
            all_goals (refine NoPanic.normal ?_)
            all_goals
              go_wp2
              go_ret2
              exact ⟨rfl, HB.out.1.trans (yT.mono HB.out.1.size)⟩
      · rw [if_neg c3]
        have c3' : (6 : Int) < (T.length : Int) := by omega
        rw [if_neg (by simp)]
        go_wp2
        go_ret2
        exact ⟨rfl, b0⟩
    · rw [if_neg c2]
      have c2' : ¬ ((C.length : Int) = 67) := by omega
      rw [if_neg (by simp)]
      go_wp2
      go_ret2
      exact ⟨rfl, b0⟩
  · rw [if_neg c1]
    have c1' : i < 0 := by omega
    rw [if_neg (by simp)]
    go_wp2
    go_ret2
    exact ⟨rfl, b0⟩
section
variable {lo : Nat} {w0 w : World} {Rs : List Res} {r at_ : Nat} {s : Sg.Str} {e : Int}
/-- a reader as a thing held -/
abbrev rrR (r : Nat) (s : Sg.Str) (at_ : Nat) (e : Int) : Res := cellsR r 96 #[.string ⟨s.toArray⟩, .int .i64 (at_ : Int), .int .i64 e]
theorem s_newReader (h : St lo w0 w Rs) (s : Sg.Str) : Calls Try.prog 31 #[.string ⟨s.toArray⟩] w fun e w' => e = .returned (.pointer (some ⟨w.heap.size, 0, none⟩)) ∧ St lo w0 w' (rrR w.heap.size s 0 0 :: Rs) :=
  (newReader_spec s w).mono fun e w' ⟨h1, h2, h3⟩ => ⟨h1, h.new (F := fun k => k = w.heap.size) h3 ⟨h2, rfl⟩ (fun k hk => by subst hk; exact Nat.le_refl _)⟩
theorem s_uint (h : St lo w0 w (rrR r s at_ e :: Rs)) (hs : s.length ≤ 1099511627776) (ha : at_ ≤ s.length) : Calls Try.prog 32 #[.pointer (some ⟨r, 0, none⟩)] w fun e' w' => e' = .returned (.int .i64 (uintR s at_ e).1) ∧ St lo w0 w' (rrR r s (uintR s at_ e).2.1 (uintR s at_ e).2.2 :: Rs) := by
  obtain ⟨F, ⟨h1, rfl⟩, h2, h3⟩ := h.open
  refine (ruint_spec r s at_ e w h1 hs ha).mono ?_
  rintro e' w' ⟨rfl, k1, k2⟩
  exact ⟨rfl, h3 (F' := fun k => k = r) _ k2 ⟨k1, rfl⟩ (fun k hk => .inl hk)⟩
theorem s_texts (h : St lo w0 w (rrR r s at_ e :: Rs)) (hs : s.length ≤ 1099511627776) (ha : at_ ≤ s.length) : Calls Try.prog 33 #[.pointer (some ⟨r, 0, none⟩)] w fun e' w' => ∃ v, e' = .returned v ∧ St lo w0 w' (ownR 9 1 v (textsR s at_ e).1.length (strs (textsR s at_ e).1) :: rrR r s (textsR s at_ e).2.1 (textsR s at_ e).2.2 :: Rs) := by
  obtain ⟨F, ⟨h1, rfl⟩, h2, h3⟩ := h.split
  refine (rtexts_spec r s at_ e w h1 hs ha).mono ?_
  rintro e' w' ⟨v, rfl, k1, k2, k3⟩
  have hr := Blk.lt h1
  exact ⟨v, rfl, h3 (F' := fun k => v.ownBlock = some k) (G' := fun k => k = r) _ _ k3 ⟨owns_base k1 (fun _ _ => Nat.zero_le _), fun k hk => hk, fun k hk => (k1.lt k hk).2⟩ ⟨k2, rfl⟩ (fun k hk => .inr (k1.lt k hk).1) (fun k hk => .inl hk) (fun k hk hk' => by have := (k1.lt k hk).1; omega)⟩
end
def decR (s : Sg.Str) : (Int × List Sg.Str × List Sg.Str) × Int :=
  let u := uintR s 0 0
  let c := textsR s u.2.1 u.2.2
  let t := textsR s c.2.1 c.2.2
  if endR s t.2.1 t.2.2 = 0 then (if okB u.1 c.1 t.1 = true then ((u.1, c.1, t.1), 0) else ((0, [], []), 9)) else ((0, [], []), 9)
/-- a signature and an error are returned -/
def DcP (x : (Int × List Sg.Str × List Sg.Str) × Int) (w : World) (e : Ending) (w' : World) : Prop :=
  ∃ a b, e = .returned (.tuple #[.agg #[.int .i64 x.1.1, a, b], .int .i64 x.2]) ∧ St w.heap.size w w' [ownR 9 1 a x.1.2.1.length (strs x.1.2.1), ownR 9 1 b x.1.2.2.length (strs x.1.2.2)]
theorem uintR_lt (s : Sg.Str) (at_ : Nat) (e : Int) (ha : at_ ≤ s.length) : (uintR s at_ e).1 < 9223372036854775808 := by
  unfold uintR
  split
  · show (0 : Int) < _
    decide
  · split
    · rename_i h
      have := (Cd.readUint_le h ha).2.2
      show (_ : Int) < _
      omega
    · show (0 : Int) < _
      decide
set_option maxRecDepth 20000 in
set_option maxHeartbeats 4000000 in
theorem decode_spec (s : Sg.Str) (w : World) (hs : s.length ≤ 1099511627776) :
    Calls Try.prog 12 #[.string ⟨s.toArray⟩] w (DcP (decR s) w) := by
  have h0 := (St.nil w).alloc 33 #[.int .i64 0, .slice none 0 0, .slice none 0 0]
  have a1 : (uintR s 0 0).2.1 ≤ s.length := uintR_le (Nat.zero_le _)
  have ui : (uintR s 0 0).1 < 9223372036854775808 := uintR_lt _ _ _ (Nat.zero_le _)
  have a2 : (textsR s (uintR s 0 0).2.1 (uintR s 0 0).2.2).2.1 ≤ s.length := textsR_le a1
  unfold decR
  dsimp only
  have ku := fun W (h : St w.heap.size w W [rrR (w.heap.size + 1) s 0 0, cellsR w.heap.size 33 #[.int .i64 0, .slice none 0 0, .slice none 0 0]]) => s_uint h hs (Nat.zero_le _)
  have kc := fun W (h : St w.heap.size w W [rrR (w.heap.size + 1) s (uintR s 0 0).2.1 (uintR s 0 0).2.2, cellsR w.heap.size 33 #[.int .i64 0, .slice none 0 0, .slice none 0 0]]) => s_texts h hs a1
  generalize uintR s 0 0 = u at *
  obtain ⟨u1, u2, u3⟩ := u
  dsimp only at *
  have kt := fun W R (h : St w.heap.size w W (rrR (w.heap.size + 1) s (textsR s u2 u3).2.1 (textsR s u2 u3).2.2 :: R)) => s_texts h hs a2
  generalize textsR s u2 u3 = c at *
  obtain ⟨C, c2, c3⟩ := c
  dsimp only at *
  generalize textsR s c2 c3 = t at *
  obtain ⟨T, t2, t3⟩ := t
  dsimp only at *
  have ke := fun W (h : Rr W (w.heap.size + 1) s t2 t3) => end_spec (w.heap.size + 1) s t2 t3 W h
  generalize endR s t2 t3 = E at *
  obtain ⟨ok, hok⟩ : ∃ ok, okB u1 C T = ok := ⟨_, rfl⟩
  have kE := fun (A B : Option Addr) (a b : Nat) (W : World) (hC : Rd W A (strs C)) (hT : Rd W B (strs T)) (h1 : C.length ≤ a) (h2 : a ≤ maxLen) (h3 : T.length ≤ b) (h4 : b ≤ maxLen) => encode_spec u1 C T A B a b W ui hC hT h1 h2 h3 h4
  unfold encE at kE
  rw [hok] at kE ⊢
  clear a1 a2 hok ui
  have hE' : (E = 0) ∨ ¬ (E = 0) := Classical.em _
  rcases ok with _ | _ <;> rcases hE' with rfl | hE
  all_goals simp only [Bool.false_eq_true, if_false, if_true] at kE ⊢
  all_goals first | rw [if_neg hE] | skip
  all_goals
    go_enter Try.func12, Try.ntmps12
    go_wp2_with fail
    refine (s_newReader h0 s).mono ?_
    rintro e w1 ⟨rfl, h1⟩
    rw [World.size_alloc] at h1 ⊢
    go_wp2_with fail
    refine (ku _ h1).mono ?_
    rintro e w2 ⟨rfl, h2⟩
    go_wp2_with fail
    refine (kc _ h2).mono ?_
    rintro e w3 ⟨v1, rfl, h3⟩
    obtain ⟨A1, n1, rfl, q1, q2⟩ := own_form h3.own
    go_wp2_with fail
    refine (kt _ _ h3.swap).mono ?_
    rintro e w4 ⟨v2, rfl, h4⟩
    obtain ⟨A2, n2, rfl, q3, q4⟩ := own_form h4.own
    have h5 := h4.alloc 33 #[.int .i64 u1, .slice A1 C.length n1, .slice A2 T.length n2]
    go_wp2_with fail
    refine (kE A1 A2 n1 n2 _ (Rd.of_own h5.tail.tail.tail.own) (Rd.of_own h5.tail.own) q1 q2 q3 q4).mono ?_
    rintro e w5 ⟨rfl, b5⟩
    have h6 := h5.under b5
    obtain ⟨o, ho⟩ : ∃ o, w4.heap.size = o := ⟨_, rfl⟩
    rw [ho] at h6 ⊢
    clear ku kc kt kE h0 h1 h2 h3 h4 h5 b5
    go_wp2_with fail
    refine (ke _ h6.tail.tail.blk).mono ?_
    rintro e w6 ⟨rfl, k, rfl⟩
    have h7 := h6.drewN k
    obtain ⟨w6, hw6⟩ : ∃ w6, w5.drewN k = w6 := ⟨_, rfl⟩
    rw [hw6] at h7 ⊢
    have d0 : w6.cell? ⟨w.heap.size, 0, none⟩ = some (.int .i64 0) := h7.tail.tail.tail.tail.blk.cell 0
    have d1 : w6.cell? ⟨w.heap.size, 1, none⟩ = some (.slice none 0 0) := h7.tail.tail.tail.tail.blk.cell 1
    have d2 : w6.cell? ⟨w.heap.size, 2, none⟩ = some (.slice none 0 0) := h7.tail.tail.tail.tail.blk.cell 2
    have c0 : w6.cell? ⟨o, 0, none⟩ = some (.int .i64 u1) := h7.blk.cell 0
    have c1 : w6.cell? ⟨o, 1, none⟩ = some (.slice A1 C.length n1) := h7.blk.cell 1
    have c2 : w6.cell? ⟨o, 2, none⟩ = some (.slice A2 T.length n2) := h7.blk.cell 2
    have e0 := h7.tail.tail.tail.tail.blk.frozen 0
    have e1 := h7.tail.tail.tail.tail.blk.frozen 1
    have e2 := h7.tail.tail.tail.tail.blk.frozen 2
    have H7 := Lib.hid (h7.pick [4, 3, 1] (by decide) (by simp))
    clear h6 h7 ke hw6
    go_wp2
  all_goals
    refine bodyPost_ret (results_ct rfl _ _ _ _ _ _ _ rfl (((H7.out.blk.set_ 0 _).set_ 1 _).set_ 2 _) Try.underlying33 rfl size_sig) rfl ?_
    refine ⟨_, _, rfl, ?_⟩
    first
      | with_reducible exact (((H7.out.set_ 0 _).set_ 1 _).set_ 2 _).tail
      | exact ((((((H7.out.set_ 0 _).set_ 1 _).set_ 2 _).tail.tail.tail).new_own (Below.refl _ _) (World.ownsRow_nil _ _ _ _)).new_own (Below.refl _ _) (World.ownsRow_nil _ _ _ _))
end Go.Proofs.Ytnlpakalcckaiaa
