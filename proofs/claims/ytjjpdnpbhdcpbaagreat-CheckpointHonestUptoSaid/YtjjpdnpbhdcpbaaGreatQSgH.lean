/-
  What Verify reports, in the program. Conditions: messages of at most 2^30 bytes.
-/
import Derived.Test.YtjjpdnpbhdcpbaaGreatQSgG
import Derived.Test.YtjjpdnpbhdcpbaaGreatQMkB
import Derived.RangeFuncFrom
namespace Go.Proofs.YtjjpdnpbhdcpbaaGreat
set_option linter.unusedVariables false
open Go.RowKit Go.Shelf
attribute [local go_sem] Oper.semAt_some
theorem maker_spec (msg : Sg.Str) (w : World) : Calls Tryz.prog 96 #[.string ⟨msg.toArray⟩] w fun e w' => e = .returned (.func (.func 147) #[] #[.pointer (some ⟨w.heap.size, 0, none⟩)]) ∧ w' = w.alloc (.cells #[.string ⟨msg.toArray⟩] 9) := by
 go_enter Tryz.func96, Tryz.ntmps96
 go_wp2
 go_ret
 exact ⟨rfl, rfl⟩
theorem undigested_spec (s : Sg.Str) (w : World) : Calls Tryz.prog 110 #[.string ⟨s.toArray⟩] w fun e w' => e = .returned (.bool (!decide (s.length = 32))) ∧ w = w' := by
 have hs := bytes_size s
 have hd : (!decide (s.length = 32)) = decide ((s.length : Int) ≠ 32) := by
  by_cases h : s.length = 32 <;> simp [h]
  omega
 go_enter Tryz.func110, Tryz.ntmps110
 go_wp2
 go_ret
 refine ⟨ret_eq ?_, rfl⟩
 rw [hd]
 by_cases h : (s.length : Int) = 32 <;> simp [h]
theorem flat_le {α : Type} (f : α → Sg.Str) (B : Nat) (h : ∀ a, (f a).length ≤ B) : ∀ l : List α, ((l.map f).flatten).length ≤ B * l.length
 | [] => by simp
 | a :: l => by
   have h1 := flat_le f B h l
   have h2 := h a
   simp only [List.map_cons, List.flatten_cons, List.length_append, List.length_cons, Nat.mul_succ]
   omega
def verB (pub : Sg.Str) (d : List Nat) (i : Int) (C T : List Sg.Str) : Bool :=
 if pub.length = 33 then
  if (pub.getD 32 0).toNat ≤ 6 then
   if 0 ≤ i then
    if i < ((2 ^ (pub.getD 32 0).toNat : Nat) : Int) then
     if C.length = 67 then
      if vld C = true then incB (Mk.leaf (Sg.ends i.toNat d C 67)) i ((2 ^ (pub.getD 32 0).toNat : Nat) : Int) T (pub.take 32) else false
     else false
    else false
   else false
  else false
 else false
set_option maxRecDepth 20000 in
set_option maxHeartbeats 4000000 in
theorem verify_spec (pub msg : Sg.Str) (i : Int) (C T : List Sg.Str) (A B : Option Addr) (cC cT : Nat) (w : World) (hm : msg.length ≤ 1073741824) (hC : Rd w A (strs C)) (hT : Rd w B (strs T)) (h1 : C.length ≤ cC) (h2 : cC ≤ maxLen) (h3 : T.length ≤ cT) (h4 : cT ≤ maxLen) :
 Calls Tryz.prog 64 #[.string ⟨pub.toArray⟩, .string ⟨msg.toArray⟩, .agg #[.int .i64 i, .slice A C.length cC, .slice B T.length cT]] w fun e w' => e = .returned (.bool (verB pub (Sg.dgs msg) i C T)) ∧ Below w.heap.size w w' := by
 obtain ⟨d, hd⟩ : ∃ d, Sg.dgs msg = d := ⟨_, rfl⟩
 have hdl := Sg.dgs_len msg
 have hp := bytes_size pub
 have f3 : ¬ (IntKind.i64.max < (C.length : Int)) := by unfold maxLen at h2; show ¬ ((9223372036854775807 : Int) < _); omega
 refine (callsIn_wide (n := 5)).1 ?_
 refine callsIn_of_wp_marks Tryz.func64 rfl trivial ?_ rfl
 simp only [Tryz.ntmps64, List.size_toArray, List.length_cons, List.length_nil, Nat.reduceAdd, Nat.reduceSub, Array.replicate_succ, Array.replicate_zero, List.push_toArray, List.append_toArray, List.nil_append, List.cons_append]
 rw [hd]
 unfold verB
 obtain ⟨W, hW⟩ : ∃ W, w.alloc (.cells #[.int .i64 i, .slice A C.length cC, .slice B T.length cT] 29) = W := ⟨_, rfl⟩
 have b0 : Below w.heap.size w W := by rw [← hW]; exact (Below.refl _ w).alloc (Nat.le_refl _) _
 have bl : Blk W w.heap.size 29 #[.int .i64 i, .slice A C.length cC, .slice B T.length cT] := by rw [← hW]; exact Blk.new w _ _
 have HB := Lib.hid (And.intro hd hdl)
 by_cases c1 : pub.length = 33
 ·rw [if_pos c1]
  rw [c1] at hp
  have hx : ∀ hh, (⟨pub.toArray⟩ : ByteArray)[32]'hh = pub.getD 32 0 := fun hh => by
   have h0 : 32 < pub.length := by omega
   rw [at_byte pub 32 h0 hh, List.getD_eq_getElem?_getD, List.getElem?_eq_getElem h0]
   rfl
  obtain ⟨x, hxx⟩ : ∃ x, pub.getD 32 0 = x := ⟨_, rfl⟩
  rw [hxx] at hx ⊢
  have e8 : wrap64 (x.toNat : Int) = (x.toNat : Int) := IntWalk.wrap64_in _ (by have := x.toNat_lt; omega)
  clear hxx
  by_cases c2 : x.toNat ≤ 6
  ·rw [if_pos c2]
   have c2' : ¬ ((6 : Int) < (x.toNat : Int)) := by omega
   have c2'' : ¬ (6 < x.toNat) := by omega
   have e9 : min x.toNat 64 = x.toNat := by omega
   obtain ⟨P, hP⟩ : ∃ P, 2 ^ x.toNat = P := ⟨_, rfl⟩
   obtain ⟨e5, e6⟩ := shl_facts x.toNat P c2 hP
   have hP6 := pow6 c2
   rw [hP] at hP6 ⊢
   clear hP
   have k0 := bl.cell 0
   have k1 := bl.cell 1
   have k2 := bl.cell 2
   by_cases c3 : 0 ≤ i
   ·rw [if_pos c3]
    have c3' : ¬ (i < 0) := by omega
    by_cases c4 : i < (P : Int)
    ·rw [if_pos c4]
     obtain ⟨n, rfl⟩ : ∃ n : Nat, i = (n : Int) := ⟨i.toNat, by omega⟩
     rw [Int.toNat_natCast]
     have c4' : ¬ ((P : Int) ≤ (n : Int)) := by omega
     by_cases c5 : C.length = 67
     ·rw [if_pos c5]
      rw [c5] at k1 f3 hW bl h1 ⊢
      have kc := contains_func 110 (enters_of Tryz.func110 (by kernel_rfl) rfl) undigested_spec A C cC W (hC.below b0) (by unfold maxLen at h2; omega)
      rw [c5] at kc
      cases c6 : vld C with
      | false =>
        rw [c6] at kc
        rw [if_neg (by simp)]
        clear c6
        gi_wp2_with (refine ⟨trivial, ?_⟩; gi_at_call 109; refine (callsIn_wide.2 kc).mono ?_; rintro e w1 ⟨rfl, rfl⟩)
        exact ⟨_, results_tmp rfl _ _ _, rfl, b0⟩
      | true =>
        rw [c6] at kc
        rw [if_pos rfl]
        gi_wp2_with (refine ⟨trivial, ?_⟩; first | (gi_at_call 109; refine (callsIn_wide.2 kc).mono ?_; rintro e w1 ⟨rfl, rfl⟩) | (gi_at_call 96; refine (callsIn_wide.2 (maker_spec msg _)).mono ?_; rintro e w2 ⟨rfl, rfl⟩))
        have hC' := hC.below b0
        obtain ⟨b, off, rfl, hrow⟩ : ∃ b off, A = some ⟨b, off, none⟩ ∧ ∀ c, c < 67 → W.cell? ⟨b, off + c, none⟩ = some (.string ⟨(C.getD c []).toArray⟩) := by
         rcases hC' with h | ⟨b, off, h, hh⟩
         ·have := congrArg List.length h
          rw [strs_length] at this
          simp at this
          rw [this] at c5
          cases c5
         ·refine ⟨b, off, h, fun c hc => ?_⟩
          rw [hh c (by rw [strs_length]; omega), List.getD_eq_getElem?_getD, List.getElem?_eq_getElem (by omega)]
          simp [strs]
        have hCl : ∀ c, (C.getD c []).length ≤ 32 := fun c => by
         rw [List.getD_eq_getElem?_getD]
         by_cases hc : c < C.length
         ·rw [List.getElem?_eq_getElem hc]
          exact Nat.le_of_eq ((vld_iff C).1 c6 _ (List.getElem_mem hc))
         ·rw [List.getElem?_eq_none (by omega)]
          simp
        have hdk : ∀ c, d.getD c 0 ≤ 15 := fun c => by
         rw [List.getD_eq_getElem?_getD]
         by_cases hc : c < d.length
         ·rw [List.getElem?_eq_getElem hc]
          exact Sg.dgs_le msg _ (by rw [hd]; exact List.getElem_mem hc)
         ·rw [List.getElem?_eq_none (by omega)]
          exact Nat.zero_le _
        have hn64 : n < 64 := by omega
        obtain ⟨f, hf⟩ : ∃ f : Nat → Sg.Str, f = fun c => Sg.wlk n c (d.getD c 0) (15 - d.getD c 0) (C.getD c []) := ⟨_, rfl⟩
        have hfl : ∀ c, (f c).length ≤ 32 := fun c => by rw [hf]; exact Sg.wlk_le n c _ 32 (by decide) _ _ (hCl c)
        have hends : Sg.ends n d C 67 = ((dfin 67).map fun c => f c.val).flatten := by
         rw [dfin_map f 67 (by decide), hf]
         rfl
        have kw : ∀ c, c < 67 → ∀ W', Calls Tryz.prog 97 #[.string ⟨(C.getD c []).toArray⟩, .int .i64 (n : Int), .int .i64 (c : Int), .int .i64 ((d.getD c 0 : Nat) : Int), .int .i64 15] W' fun e w' => e = .returned (.string ⟨(f c).toArray⟩) ∧ Below W'.heap.size W' w' := fun c hc W' => by
         have h := hdk c
         have := walk_spec (C.getD c []) n c (d.getD c 0) (15 - d.getD c 0) W' (by have := hCl c; omega) (by omega) (by omega) (by omega)
         rw [show ((d.getD c 0 : Nat) : Int) + ((15 - d.getD c 0 : Nat) : Int) = 15 by omega] at this
         rw [hf]
         exact this
        have HD := Lib.hid hends
        clear hf hends
        have t0 : St W.heap.size W ((W.alloc (.cells #[.pointer none, .slice none 0 0] 134)).alloc (.cells #[.string ⟨msg.toArray⟩] 9)) [buR W.heap.size ([] : Sg.Str)] := ((St.nil W).new_bu).under ((Below.refl _ _).alloc (Nat.le_refl _) _)
        have hmc : ((W.alloc (.cells #[.pointer none, .slice none 0 0] 134)).alloc (.cells #[.string ⟨msg.toArray⟩] 9)).cell? ⟨W.heap.size + 1, 0, none⟩ = some (.string ⟨msg.toArray⟩) := by
         have := (Blk.new (W.alloc (.cells #[.pointer none, .slice none 0 0] 134)) 9 #[.string ⟨msg.toArray⟩]).cell 0
         rw [World.size_alloc] at this
         exact this
        refine range_digits hd hmc hm (fun pre (_ : Unit) => [buR W.heap.size ((pre.map fun c => f c.val).flatten)]) (fun pre v R hR => by simp at hR; subst hR; exact celled_bu) (s := 9) (t := 10) () rfl t0 ?assign ?body ?done
        case assign =>
         intro l c W1 K hK
         simp only [List.setIfInBounds_toArray, List.set_cons_zero, List.set_cons_succ] at hK ⊢
         gi_wp2
         exact hK
        case body =>
         rintro l pre ⟨c, hc⟩ _ W1 hlen h
         simp only [List.setIfInBounds_toArray, List.set_cons_zero, List.set_cons_succ]
         have kwc := kw c hc
         have hrc := hrow c hc
         generalize d.getD c 0 = y at kwc ⊢
         generalize C.getD c [] = z at kwc hrc
         gi_wp2
         have hy := h.drew
         have HW : ∀ W', Below W.heap.size W W' → W'.cell? ⟨w.heap.size, 0, none⟩ = some (.int .i64 (n : Int)) ∧ W'.cell? ⟨w.heap.size, 1, none⟩ = some (.slice (some ⟨b, off, none⟩) 67 cC) ∧ W'.cell? ⟨b, off + c, none⟩ = some (.string ⟨z.toArray⟩) := fun W' hb => ⟨below_cell hb k0, below_cell hb k1, below_cell hb hrc⟩
         have HWl := Lib.hid HW
         have hpl := flat_le (fun c : Fin 67 => f c.val) 32 (fun c => hfl c.val) pre
         have i0 : (0 : Int) ≤ (c : Int) := by omega
         have i1 : (c : Int) < 67 := by omega
         have i2 : ¬ ((67 : Int) ≤ (c : Int)) := by omega
         have i3 : c < 67 := hc
         have hcat : ((pre ++ [(⟨c, hc⟩ : Fin 67)]).map fun c => f c.val).flatten = (pre.map fun c => f c.val).flatten ++ f c := by simp
         have hfc := hfl c
         have HE := Lib.hid hcat
         obtain ⟨l0, hl0⟩ : ∃ l0, (pre.map fun c => f c.val).flatten = l0 := ⟨_, rfl⟩
         rw [hl0] at hpl hy
         clear hcat HW h
         refine wp_round_held (S := (fun w' => w'.cell? ⟨w.heap.size, 0, none⟩ = some (.int .i64 (n : Int)) ∧ w'.cell? ⟨w.heap.size, 1, none⟩ = some (.slice (some ⟨b, off, none⟩) 67 cC) ∧ w'.cell? ⟨b, off + c, none⟩ = some (.string ⟨z.toArray⟩))) (by kernel_rfl) (by kernel_rfl) ?_ (fun hH0 => ?_)
         ·exact HWl.out _ hy.below
         refine tk 0 47 hH0 ?_
         refine tk 1 48 hH0 ?_
         refine tk 2 49 hH0 ?_
         refine tk 3 50 hH0 ?_
         refine tk 4 51 hH0 ?_
         refine tk 5 52 hH0 ?_
         refine tk 6 53 hH0 ?_
         refine tk 7 54 hH0 ?_
         refine tk 8 55 hH0 ?_
         refine rdy [9] ?_
         refine an 56 fun K hK => ?_
         go_simp; (
          with_reducible refine (kwc _).mono ?_
          rintro e v1 ⟨rfl, b1⟩
          have hy1 := hy.under b1); go_wp2_with fail
         refine hK.out _ _ ?_ (fun hH1 => ?_)
         ·exact HWl.out _ hy1.below
         clear hK K hH0
         try simp only [pu]
         refine rdy [10] ?_
         refine an 57 fun K hK => ?_
         go_simp; (
          with_reducible refine (s_write hy1.swap (f c) (by omega)).mono ?_
          rintro e v2 ⟨rfl, hy2⟩); go_wp2_with fail
         refine hK.out _ _ ?_ (fun hH2 => ?_)
         ·exact HWl.out _ hy2.below
         clear hK K hH1
         try simp only [pu]
         refine dn ?_ _
         all_goals (refine OnlyN.normal ?_)
         refine ⟨(), ?_⟩
         have h9 := hy2.swap
         rw [← hl0, ← HE.out] at h9
         exact h9
        case done =>
         rintro D _ W1 hD h hK
         simp only [World.size_alloc] at hD
         have h' := h.drew
         have HW : ∀ W', Below W.heap.size W W' → W'.cell? ⟨w.heap.size, 0, none⟩ = some (.int .i64 (n : Int)) ∧ W'.cell? ⟨w.heap.size, 2, none⟩ = some (.slice B T.length cT) := fun W' hb => ⟨below_cell hb k0, below_cell hb k2⟩
         have HWl := Lib.hid HW
         have hcut : (⟨pub.toArray⟩ : ByteArray).extract 0 32 = ⟨(pub.take 32).toArray⟩ := bytes_cut pub 0 32
         obtain ⟨r, hr⟩ : ∃ r, pub.take 32 = r := ⟨_, rfl⟩
         rw [hr] at hcut
         have HR := Lib.hid hr
         clear hr
         have hle := flat_le (fun c : Fin 67 => f c.val) 32 (fun c => hfl c.val) (dfin 67)
         rw [dfin_len 67 (by decide), ← HD.out] at hle
         rw [← HD.out] at h h'
         obtain ⟨E, hE⟩ : ∃ E, Sg.ends n d C 67 = E := ⟨_, rfl⟩
         rw [hE] at h h' hle
         have HEE := Lib.hid hE
         have hKd : W1.drew.heap[D]? = some (.deferred (some [])) := hK
         have ks := string_keeps W.heap.size W.heap.size E W1.drew h'.bu h'.size
         have HKd := Lib.hid hKd
         have y0 := h'.below
         clear HW hE hK hKd h h'
         gi_wp2
         refine wpIn_wide.2 ?_
         refine wp_region_noPanic ?_
         refine wp_region_held_drew (S := (fun w' => w'.cell? ⟨w.heap.size, 0, none⟩ = some (.int .i64 (n : Int)) ∧ w'.cell? ⟨w.heap.size, 2, none⟩ = some (.slice B T.length cT))) (by kernel_rfl) ?_ (fun hH0 => ?_)
         ·exact HWl.out _ y0
         refine tk 2 60 hH0 ?_
         refine tk 3 61 hH0 ?_
         refine tk 4 62 hH0 ?_
         refine tk 5 63 hH0 ?_
         refine tk 6 64 hH0 ?_
         refine tk 7 65 hH0 ?_
         refine tk 8 66 hH0 ?_
         refine rdy [0] ?_
         refine an 58 fun K hK => ?_
         go_simp; (
          with_reducible refine ks.mono ?_
          rintro e v1 ⟨rfl, ko, bb⟩
          have y1 := y0.trans bb
          have D1 := Lib.hid (ko.same D _ HKd.out rfl)); go_wp2_with fail
         refine hK.out _ _ ?_ (fun hH1 => ?_)
         ·exact HWl.out _ y1
         clear hK K hH0
         try simp only [pu]
         refine rdy [1] ?_
         refine an 59 fun K hK => ?_
         go_simp; (
          with_reducible refine (leaf_spec E (by omega) v1).mono ?_
          rintro e v2 ⟨rfl, b2⟩
          have y2 := y1.trans (b2.mono y1.size)
          have D2 := Lib.hid ((b2.block D (Array.getElem?_eq_some_iff.1 D1.out).1).trans D1.out)); go_wp2_with fail
         refine hK.out _ _ ?_ (fun hH2 => ?_)
         ·exact HWl.out _ y2
         clear hK K hH1
         try simp only [pu]
         refine rdy [9] ?_
         refine an 67 fun K hK => ?_
         go_simp; (
          with_reducible refine (included_spec (Mk.leaf E) (n : Int) (P : Int) B T cT r v2 ((hT.below b0).below y2) h3 h4).mono ?_
          rintro e v3 ⟨rfl, b3⟩
          have y3 := y2.trans (b3.mono y2.size)
          have D3 := Lib.hid ((b3.block D (Array.getElem?_eq_some_iff.1 D2.out).1).trans D2.out)); go_wp2_with fail
         refine hK.out _ _ ?_ (fun hH3 => ?_)
         ·exact HWl.out _ y3
         clear hK K hH2
         try simp only [pu]
         refine tk 10 6 hH3 ?_
         refine dn ?_ _
         all_goals (refine NoPanic.normal ?_)
         gi_wp2
         refine ⟨by simp, .inl ⟨_, _, rfl, run_takeDeferred D3.out, ?_⟩⟩
         refine ⟨_, results_tmp rfl _ _ _, ?_, b0.trans ((y3.trans (belowK_b (Nat.le_refl _) _ D _ _ (by omega) D3.out rfl rfl)).mono b0.size)⟩
         rw [HEE.out, HR.out]
         rfl
     ·rw [if_neg c5]
      have c5' : ¬ ((C.length : Int) = 67) := by omega
      gi_wp2_with (first | (exfalso; omega) | refine ⟨trivial, ?_⟩)
      exact ⟨_, results_tmp rfl _ _ _, rfl, b0⟩
    ·rw [if_neg c4]
     have c4' : (P : Int) ≤ i := by omega
     gi_wp2_with (refine ⟨trivial, ?_⟩)
     exact ⟨_, results_tmp rfl _ _ _, rfl, b0⟩
   ·rw [if_neg c3]
    have c3' : i < 0 := by omega
    gi_wp2_with (refine ⟨trivial, ?_⟩)
    exact ⟨_, results_tmp rfl _ _ _, rfl, b0⟩
  ·rw [if_neg c2]
   have c2' : (6 : Int) < (x.toNat : Int) := by omega
   have c2'' : 6 < x.toNat := by omega
   gi_wp2
   exact ⟨_, results_tmp rfl _ _ _, rfl, b0⟩
 ·rw [if_neg c1]
  have c1' : ¬ ((pub.length : Int) = 33) := by omega
  gi_wp2
  exact ⟨_, results_tmp rfl _ _ _, rfl, b0⟩
end Go.Proofs.YtjjpdnpbhdcpbaaGreat
