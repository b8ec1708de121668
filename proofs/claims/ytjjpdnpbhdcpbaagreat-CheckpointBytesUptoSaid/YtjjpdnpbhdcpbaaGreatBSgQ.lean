/-
  The reference's bytes of signatures; signatures compared. Conditions: strings of at most 2^40 bytes.
-/
import Derived.Test.YtjjpdnpbhdcpbaaGreatQPc
import Derived.Test.YtjjpdnpbhdcpbaaGreatBPb
import Derived.Test.YtjjpdnpbhdcpbaaGreatBCdB
import Derived.Test.YtjjpdnpbhdcpbaaGreatQCdB
import Derived.Test.YtjjpdnpbhdcpbaaGreatBPa
import Derived.Test.YtjjpdnpbhdcpbaaGreatQMkB
namespace Go.Proofs.YtjjpdnpbhdcpbaaGreat
set_option linter.unusedVariables false
open Go.RowKit Go.Shelf
attribute [local go_sem] Oper.semAt_some
set_option maxRecDepth 20000 in
set_option maxHeartbeats 4000000 in
theorem rvsig_spec (i : Int) (C T : List Sg.Str) (A B : Option Addr) (cC cT : Nat) (w : World) (hC : Rd w A (strs C)) (hT : Rd w B (strs T)) (h1 : C.length ≤ cC) (h2 : cC ≤ maxLen) (h3 : T.length ≤ cT) (h4 : cT ≤ maxLen) :
 Calls Tryz.prog 121 #[.agg #[.int .i64 i, .slice A C.length cC, .slice B T.length cT]] w fun e w' => e = .returned (.bool (okB i C T)) ∧ Below w.heap.size w w' := by
 have f3 : ¬ (IntKind.i64.max < (C.length : Int)) := by unfold maxLen at h2; show ¬ ((9223372036854775807 : Int) < _); omega
 have f4 : ¬ (IntKind.i64.max < (T.length : Int)) := by unfold maxLen at h4; show ¬ ((9223372036854775807 : Int) < _); omega
 unfold okB
 obtain ⟨W, hW⟩ : ∃ W, w.alloc (.cells #[.int .i64 i, .slice A C.length cC, .slice B T.length cT] 29) = W := ⟨_, rfl⟩
 have b0 : Below w.heap.size w W := by rw [← hW]; exact (Below.refl _ w).alloc (Nat.le_refl _) _
 have bl : Blk W w.heap.size 29 #[.int .i64 i, .slice A C.length cC, .slice B T.length cT] := by rw [← hW]; exact Blk.new w _ _
 have k0 := bl.cell 0
 have k1 := bl.cell 1
 have k2 := bl.cell 2
 have kc := digests_spec A C cC W (hC.below b0) (by unfold maxLen at h2; omega)
 have kt := digests_spec B T cT W (hT.below b0) (by unfold maxLen at h4; omega)
 have HB := Lib.hid b0
 clear bl hC hT b0
 by_cases c1 : 0 ≤ i
 ·rw [if_pos c1]
  have c1' : decide (i ≥ 0) = true := decide_eq_true c1
  by_cases c2 : C.length = 67
  ·rw [if_pos c2]
   rw [c2] at k1 f3 hW h1 kc ⊢
   by_cases c3 : T.length ≤ 6
   ·rw [if_pos c3]
    have c3' : decide ((T.length : Int) ≤ 6) = true := decide_eq_true (by omega)
    have c3'' : (T.length : Int) ≤ 6 := by omega
    cases c4 : vld C with
    | false =>
      rw [c4] at kc
      rw [if_neg (by simp)]
      clear c4
      go_enter Tryz.func121, Tryz.ntmps121
      go_wp2_with fail
      refine kc.mono ?_
      rintro e w1 ⟨rfl, rfl⟩
      go_wp2
      go_ret
      exact ⟨rfl, HB.out⟩
    | true =>
      rw [c4] at kc
      rw [if_pos rfl]
      generalize vld T = q at kt ⊢
      clear c4
      go_enter Tryz.func121, Tryz.ntmps121
      go_wp2_with fail
      refine kc.mono ?_
      rintro e w1 ⟨rfl, rfl⟩
      go_wp2_with fail
      refine kt.mono ?_
      rintro e w1 ⟨rfl, rfl⟩
      go_wp2
      go_ret
      exact ⟨rfl, HB.out⟩
   ·rw [if_neg c3]
    have c3' : decide ((T.length : Int) ≤ 6) = false := decide_eq_false (by omega)
    have c3'' : ¬ ((T.length : Int) ≤ 6) := by omega
    go_enter Tryz.func121, Tryz.ntmps121
    go_wp2
    go_ret
    exact ⟨rfl, HB.out⟩
  ·rw [if_neg c2]
   have c2' : ¬ ((C.length : Int) = 67) := by omega
   have c2'' : ((C.length : Int) == 67) = false := by rw [beq_eq_false_iff_ne]; exact c2'
   go_enter Tryz.func121, Tryz.ntmps121
   go_wp2
   go_ret
   exact ⟨rfl, HB.out⟩
 ·rw [if_neg c1]
  have c1' : decide (i ≥ 0) = false := decide_eq_false (by omega)
  go_enter Tryz.func121, Tryz.ntmps121
  go_wp2
  go_ret
  exact ⟨rfl, HB.out⟩
set_option maxRecDepth 20000 in
set_option maxHeartbeats 4000000 in
theorem rencode_spec (i : Int) (C T : List Sg.Str) (A B : Option Addr) (cC cT : Nat) (w : World) (hi : i < 9223372036854775808) (hC : Rd w A (strs C)) (hT : Rd w B (strs T)) (h1 : C.length ≤ cC) (h2 : cC ≤ maxLen) (h3 : T.length ≤ cT) (h4 : cT ≤ maxLen) :
 Calls Tryz.prog 70 #[.agg #[.int .i64 i, .slice A C.length cC, .slice B T.length cT]] w fun e w' => e = .returned (.tuple #[.string ⟨(encE i C T).1.toArray⟩, .int .i64 (encE i C T).2]) ∧ Below w.heap.size w w' := by
 obtain ⟨W, hW⟩ : ∃ W, w.alloc (.cells #[.int .i64 i, .slice A C.length cC, .slice B T.length cT] 29) = W := ⟨_, rfl⟩
 have b0 : Below w.heap.size w W := by rw [← hW]; exact (Below.refl _ w).alloc (Nat.le_refl _) _
 have bl : Blk W w.heap.size 29 #[.int .i64 i, .slice A C.length cC, .slice B T.length cT] := by rw [← hW]; exact Blk.new w _ _
 have k0 := bl.cell 0
 have k1 := bl.cell 1
 have k2 := bl.cell 2
 have kv := rvsig_spec i C T A B cC cT W (hC.below b0) (hT.below b0) h1 h2 h3 h4
 unfold encE
 cases ho : okB i C T with
 | false =>
   rw [ho] at kv
   rw [if_neg (by simp)]
   clear ho
   go_enter Tryz.func70, Tryz.ntmps70
   go_wp2_with fail
   refine kv.mono ?_
   rintro e w1 ⟨rfl, b1⟩
   go_wp2
   go_ret2
   exact ⟨rfl, b0.trans (b1.mono b0.size)⟩
 | true =>
   rw [ho] at kv
   rw [if_pos rfl]
   obtain ⟨c1, c2, c3, c4, c5⟩ : 0 ≤ i ∧ C.length = 67 ∧ T.length ≤ 6 ∧ vld C = true ∧ vld T = true := by
    unfold okB at ho
    by_cases c1 : 0 ≤ i
    ·rw [if_pos c1] at ho
     by_cases c2 : C.length = 67
     ·rw [if_pos c2] at ho
      by_cases c3 : T.length ≤ 6
      ·rw [if_pos c3] at ho
       by_cases c4 : vld C = true
       ·rw [if_pos c4] at ho; exact ⟨c1, c2, c3, c4, ho⟩
       ·rw [if_neg c4] at ho; cases ho
      ·rw [if_neg c3] at ho; cases ho
     ·rw [if_neg c2] at ho; cases ho
    ·rw [if_neg c1] at ho; cases ho
   obtain ⟨n, rfl⟩ : ∃ n : Nat, i = (n : Int) := ⟨i.toNat, by omega⟩
   unfold encS
   rw [Int.toNat_natCast]
   have kn := fun W' => number_ref n (by omega) W'
   have hbC := vld_body c4 (by omega)
   have hbT := vld_body c5 (by omega)
   have kC := fun (W' : World) (hh : Below W.heap.size W W') => texts_ref A C cC W' ((hC.below b0).below hh) (by omega) (by omega)
   have kT := fun (W' : World) (hh : Below W.heap.size W W') => texts_ref B T cT W' ((hT.below b0).below hh) (by omega) (by omega)
   have hU := Cd.uns_len n
   have hX : (Cd.texts C).length ≤ 1000000010 := by
    have := Cd.uns_len C.length
    unfold Cd.texts
    rw [List.length_append]
    omega
   have hY : (Cd.texts T).length ≤ 1000000010 := by
    have := Cd.uns_len T.length
    unfold Cd.texts
    rw [List.length_append]
    omega
   generalize Cd.uns n = U at kn hU ⊢
   generalize Cd.texts C = X at kC hX ⊢
   generalize Cd.texts T = Y at kT hY ⊢
   obtain ⟨f5, f6⟩ := sg_cat U X (by omega)
   obtain ⟨f7, f8⟩ := sg_cat (U ++ X) Y (by rw [List.length_append]; omega)
   have ha1 := bytes_append U X
   have ha2 := bytes_append (U ++ X) Y
   generalize U ++ X = V at ha1 ha2 f7 f8 ⊢
   generalize V ++ Y = Z at ha2 ⊢
   have hS : ∀ W', Below W.heap.size W W' → W'.cell? ⟨w.heap.size, 0, none⟩ = some (.int .i64 (n : Int)) ∧ W'.cell? ⟨w.heap.size, 1, none⟩ = some (.slice A C.length cC) ∧ W'.cell? ⟨w.heap.size, 2, none⟩ = some (.slice B T.length cT) := fun W' hh => ⟨below_cell hh k0, below_cell hh k1, below_cell hh k2⟩
   have HS := Lib.hid hS
   have HB := Lib.hid b0
   clear hS c1 c2 c3 c4 c5 hbC hbT bl b0 hC hT ho hi
   go_enter Tryz.func70, Tryz.ntmps70
   go_wp2_with fail
   refine kv.mono ?_
   rintro e w1 ⟨rfl, b1⟩
   have y0 := b1.drew
   clear kv k0 k1 k2
   go_wp2_with fail
   refine wp_region_noPanic ?_
   refine wp_region_held_drew (S := (fun w' => w'.cell? ⟨w.heap.size, 0, none⟩ = some (.int .i64 (n : Int)) ∧ w'.cell? ⟨w.heap.size, 1, none⟩ = some (.slice A C.length cC) ∧ w'.cell? ⟨w.heap.size, 2, none⟩ = some (.slice B T.length cT))) (by kernel_rfl) ?_ (fun hH0 => ?_)
   ·exact HS.out _ y0
   refine tk 0 7 hH0 ?_
   refine tk 1 8 hH0 ?_
   refine tk 3 10 hH0 ?_
   refine tk 4 11 hH0 ?_
   refine tk 7 14 hH0 ?_
   refine tk 8 15 hH0 ?_
   refine rdy [2] ?_
   refine an 9 fun K hK => ?_
   go_simp; (
    with_reducible refine (kn _).mono ?_
    rintro e v1 ⟨rfl, b1⟩
    have yn := y0.trans (b1.mono y0.size)); go_wp2_with fail
   refine hK.out _ _ ?_ (fun hH1 => ?_)
   ·exact HS.out _ yn
   clear hK K hH0
   try simp only [pu]
   refine rdy [5] ?_
   refine an 12 fun K hK => ?_
   go_simp; (
    with_reducible refine (kC v1 yn).mono ?_
    rintro e v2 ⟨rfl, b2⟩
    have yC := yn.trans (b2.mono yn.size)); go_wp2_with fail
   refine hK.out _ _ ?_ (fun hH2 => ?_)
   ·exact HS.out _ yC
   clear hK K hH1
   try simp only [pu]
   refine tk 6 13 hH2 ?_
   refine rdy [9] ?_
   refine an 16 fun K hK => ?_
   go_simp; (
    with_reducible refine (kT v2 yC).mono ?_
    rintro e v3 ⟨rfl, b3⟩
    have yT := yC.trans (b3.mono yC.size)); go_wp2_with fail
   refine hK.out _ _ ?_ (fun hH3 => ?_)
   ·exact HS.out _ yT
   clear hK K hH2
   try simp only [pu]
   refine tk 10 17 hH3 ?_
   refine tk 11 2 hH3 ?_
   refine tk 12 3 hH3 ?_
   refine dn ?_ _
   all_goals (refine NoPanic.normal ?_)
   all_goals
    go_wp2
    go_ret2
    exact ⟨rfl, HB.out.trans (yT.mono HB.out.size)⟩
theorem results_ctt {P : Program} {fn : Func} {p u v : Tmp} {ty : TypeId} (h : fn.results = #[.cell p ty, .tmp u, .tmp v]) (tmps : Array Value) (w : World) (g : Nat) (t : TypeId) (cs : Array Value) (fr : Nat × Nat) (d : TypeDesc)
 (hp : tmps.getD p undef = .pointer (some ⟨g, 0, none⟩)) (hg : w.heap[g]? = some (.cells cs t fr)) (hu : P.underlying ty = some d) (hd : (match d with | .struct _ | .array _ _ => true | _ => false) = true) (hi : (P.info? ty).map (·.size) = some cs.size) :
 (results fn tmps).run P w = .ok (.tuple #[.agg cs, tmps.getD u undef, tmps.getD v undef]) w := by
 have hp' : tmps[p]?.getD undef = .pointer (some ⟨g, 0, none⟩) := by simpa using hp
 simp [results, h, hp', asAddr, run_loadVar_row w g t ty cs fr d hg hu hd hi]
def sgRd (s : Sg.Str) (at_ : Nat) : Option (Nat × List Sg.Str × List Sg.Str × Nat) :=
 match Cd.readUint s at_ with
 | none => none
 | some (i, a1) => match Cd.readTexts s a1 with
   | none => none
   | some (C, a2) => match Cd.readTexts s a2 with
     | none => none
     | some (T, a3) => if okB i C T = true then some (i, C, T, a3) else none
def RdP (o : Option (Nat × List Sg.Str × List Sg.Str × Nat)) (w : World) (e : Ending) (w' : World) : Prop :=
 match o with
 | some (i, C, T, a) => ∃ x y, e = .returned (.tuple #[.agg #[.int .i64 (i : Int), x, y], .int .i64 (a : Int), .bool true]) ∧ St w.heap.size w w' [ownR 9 1 x C.length (strs C), ownR 9 1 y T.length (strs T)]
 | none => e = .returned (.tuple #[.agg #[.int .i64 0, .slice none 0 0, .slice none 0 0], .int .i64 0, .bool false]) ∧ Below w.heap.size w w'
set_option maxRecDepth 20000 in
set_option maxHeartbeats 4000000 in
theorem sgread_spec (s : Sg.Str) (at_ : Nat) (w : World) (hs : s.length ≤ 1099511627776) (ha : at_ ≤ s.length) :
 Calls Tryz.prog 82 #[.string ⟨s.toArray⟩, .int .i64 (at_ : Int)] w (RdP (sgRd s at_) w) := by
 have h0 := (St.nil w).alloc 29 #[.int .i64 0, .slice none 0 0, .slice none 0 0]
 obtain ⟨W, hW⟩ : ∃ W, w.alloc (.cells #[.int .i64 0, .slice none 0 0, .slice none 0 0] 29) = W := ⟨_, rfl⟩
 rw [hW] at h0
 have ku := readUint_ref s at_ W hs ha
 unfold sgRd
 have hcl : ∀ W' Rs, St w.heap.size w W' (cellsR w.heap.size 29 #[.int .i64 0, .slice none 0 0, .slice none 0 0] :: Rs) → (W'.cell? ⟨w.heap.size, 0, none⟩ = some (.int .i64 0) ∧ W'.cell? ⟨w.heap.size, 1, none⟩ = some (.slice none 0 0) ∧ W'.cell? ⟨w.heap.size, 2, none⟩ = some (.slice none 0 0)) ∧ W'.frozen? ⟨w.heap.size, 0, none⟩ = false ∧ W'.frozen? ⟨w.heap.size, 1, none⟩ = false ∧ W'.frozen? ⟨w.heap.size, 2, none⟩ = false := fun W' Rs h => ⟨⟨h.blk.cell 0, h.blk.cell 1, h.blk.cell 2⟩, h.blk.frozen 0, h.blk.frozen 1, h.blk.frozen 2⟩
 have HC := Lib.hid hcl
 clear hcl
 have H0 := Lib.hid h0
 cases h1 : Cd.readUint s at_ with
 | none =>
   rw [h1] at ku
   obtain ⟨⟨d0, d1, d2⟩, e0, e1, e2⟩ := HC.out _ _ h0
   clear h0 h1
   go_enter Tryz.func82, Tryz.ntmps82
   go_wp2_with fail
   refine ku.mono ?_
   rintro e w1 ⟨rfl, rfl⟩
   go_wp2
   refine bodyPost_ret (results_ctt rfl _ _ _ _ _ _ _ rfl (((H0.out.blk.set_ 0 _).set_ 1 _).set_ 2 _) Tryz.underlying29 rfl size_sig) rfl ?_
   exact ⟨rfl, (((H0.out.set_ 0 _).set_ 1 _).set_ 2 _).below⟩
 | some p =>
   obtain ⟨i, a1⟩ := p
   rw [h1] at ku
   have hle1 := Cd.readUint_le h1 ha
   have kc := readTexts_ref s a1 W hs hle1.2.1
   dsimp only
   cases h2 : Cd.readTexts s a1 with
   | none =>
     rw [h2] at kc
     clear h0 h1 h2
     go_enter Tryz.func82, Tryz.ntmps82
     go_wp2_with fail
     refine ku.mono ?_
     rintro e w1 ⟨rfl, rfl⟩
     go_wp2_with fail
     refine kc.mono ?_
     rintro e w2 ⟨rfl, b2⟩
     have h3 := H0.out.under b2
     obtain ⟨⟨d0, d1, d2⟩, e0, e1, e2⟩ := HC.out _ _ h3
     have H3 := Lib.hid h3
     clear h3 b2
     go_wp2
     refine bodyPost_ret (results_ctt rfl _ _ _ _ _ _ _ rfl (((H3.out.blk.set_ 0 _).set_ 1 _).set_ 2 _) Tryz.underlying29 rfl size_sig) rfl ?_
     exact ⟨rfl, (((H3.out.set_ 0 _).set_ 1 _).set_ 2 _).below⟩
   | some p =>
     obtain ⟨C, a2⟩ := p
     rw [h2] at kc
     have hle2 := Cd.readTexts_le h2 hle1.2.1
     have kt := fun W' => readTexts_ref s a2 W' hs hle2
     dsimp only
     cases h3 : Cd.readTexts s a2 with
     | none =>
       rw [h3] at kt
       clear h0 h1 h2 h3
       go_enter Tryz.func82, Tryz.ntmps82
       go_wp2_with fail
       refine ku.mono ?_
       rintro e w1 ⟨rfl, rfl⟩
       go_wp2_with fail
       refine kc.mono ?_
       rintro e w2 ⟨⟨v1, rfl, o1⟩, b2⟩
       have h3 := H0.out.under b2
       go_wp2_with fail
       refine (kt _).mono ?_
       rintro e w3 ⟨rfl, b3⟩
       have h4 := h3.under b3
       obtain ⟨⟨d0, d1, d2⟩, e0, e1, e2⟩ := HC.out _ _ h4
       have H4 := Lib.hid h4
       clear h3 h4 b2 b3 o1 ku kc kt
       go_wp2
       refine bodyPost_ret (results_ctt rfl _ _ _ _ _ _ _ rfl (((H4.out.blk.set_ 0 _).set_ 1 _).set_ 2 _) Tryz.underlying29 rfl size_sig) rfl ?_
       exact ⟨rfl, (((H4.out.set_ 0 _).set_ 1 _).set_ 2 _).below⟩
     | some p =>
       obtain ⟨T, a3⟩ := p
       rw [h3] at kt
       dsimp only
       have hi := hle1.2.2
       have kv := fun (A B : Option Addr) (a b : Nat) (W : World) (hC : Rd W A (strs C)) (hT : Rd W B (strs T)) (h1 : C.length ≤ a) (h2 : a ≤ maxLen) (h3 : T.length ≤ b) (h4 : b ≤ maxLen) => rvsig_spec (i : Int) C T A B a b W hC hT h1 h2 h3 h4
       obtain ⟨ok, hok⟩ : ∃ ok, okB (i : Int) C T = ok := ⟨_, rfl⟩
       rw [hok] at kv ⊢
       clear h0 h1 h2 h3 hok
       cases ok
       all_goals simp only [Bool.false_eq_true, if_false, if_true]
       all_goals
        go_enter Tryz.func82, Tryz.ntmps82
        go_wp2_with fail
        refine ku.mono ?_
        rintro e w1 ⟨rfl, rfl⟩
        go_wp2_with fail
        refine kc.mono ?_
        rintro e w2 ⟨⟨v1, rfl, o1⟩, b2⟩
        have h3 := H0.out.new_own b2 o1
        obtain ⟨A1, n1, rfl, q1, q2⟩ := own_form h3.own
        go_wp2_with fail
        refine (kt _).mono ?_
        rintro e w3 ⟨⟨v2, rfl, o2⟩, b3⟩
        have h4 := h3.new_own b3 o2
        obtain ⟨A2, n2, rfl, q3, q4⟩ := own_form h4.own
        have h5 := h4.alloc 29 #[.int .i64 (i : Int), .slice A1 C.length n1, .slice A2 T.length n2]
        go_wp2_with fail
        refine (kv A1 A2 n1 n2 _ (Rd.of_own h5.tail.tail.own) (Rd.of_own h5.tail.own) q1 q2 q3 q4).mono ?_
        rintro e w4 ⟨rfl, b4⟩
        have h6 := h5.under b4
        obtain ⟨o, ho⟩ : ∃ o, w3.heap.size = o := ⟨_, rfl⟩
        rw [ho] at h6 ⊢
        obtain ⟨⟨d0, d1, d2⟩, e0, e1, e2⟩ := HC.out _ _ (h6.pk [3])
        have c0 : w4.cell? ⟨o, 0, none⟩ = some (.int .i64 (i : Int)) := h6.blk.cell 0
        have c1 : w4.cell? ⟨o, 1, none⟩ = some (.slice A1 C.length n1) := h6.blk.cell 1
        have c2 : w4.cell? ⟨o, 2, none⟩ = some (.slice A2 T.length n2) := h6.blk.cell 2
        have H6 := Lib.hid (h6.pk [3, 2, 1])
        clear h3 h4 h5 h6 b2 b3 b4 o1 o2 ku kc kt kv
        go_wp2
        refine bodyPost_ret (results_ctt rfl _ _ _ _ _ _ _ rfl (((H6.out.blk.set_ 0 _).set_ 1 _).set_ 2 _) Tryz.underlying29 rfl size_sig) rfl ?_
        first
         | exact ⟨_, _, rfl, (((H6.out.set_ 0 _).set_ 1 _).set_ 2 _).tail⟩
         | exact ⟨rfl, (((H6.out.set_ 0 _).set_ 1 _).set_ 2 _).below⟩
theorem sgRd_le {s : Sg.Str} {at_ i a : Nat} {C T : List Sg.Str} (h : sgRd s at_ = some (i, C, T, a)) (ha : at_ ≤ s.length) : a ≤ s.length := by
 unfold sgRd at h
 cases h1 : Cd.readUint s at_ with
 | none => rw [h1] at h; cases h
 | some p =>
   obtain ⟨j, a1⟩ := p
   rw [h1] at h
   dsimp only at h
   cases h2 : Cd.readTexts s a1 with
   | none => rw [h2] at h; cases h
   | some p =>
     obtain ⟨C', a2⟩ := p
     rw [h2] at h
     dsimp only at h
     cases h3 : Cd.readTexts s a2 with
     | none => rw [h3] at h; cases h
     | some p =>
       obtain ⟨T', a3⟩ := p
       rw [h3] at h
       dsimp only at h
       split at h
       ·cases h
        exact Cd.readTexts_le h3 (Cd.readTexts_le h2 (Cd.readUint_le h1 ha).2.1)
       ·cases h
theorem textsR_err (s : Sg.Str) (a : Nat) : textsR s a 9 = ([], a, 9) := by unfold textsR; rw [if_pos (by decide)]
theorem endR_err (s : Sg.Str) (a : Nat) : endR s a 9 = 9 := by unfold endR; rw [if_neg (fun h => absurd h.1 (by decide))]
end Go.Proofs.YtjjpdnpbhdcpbaaGreat
