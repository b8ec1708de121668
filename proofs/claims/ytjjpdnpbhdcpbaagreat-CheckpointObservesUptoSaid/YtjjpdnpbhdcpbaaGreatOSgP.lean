/-
  The reference's Verify. Conditions: messages of at most 2^30 bytes.
-/
import Derived.Test.YtjjpdnpbhdcpbaaGreatQPc
import Derived.Test.YtjjpdnpbhdcpbaaGreatOSgO
namespace Go.Proofs.YtjjpdnpbhdcpbaaGreat
set_option linter.unusedVariables false
open Go.RowKit Go.Shelf
attribute [local go_sem] Oper.semAt_some
theorem vpub_spec (pub : Sg.Str) (w : World) : Calls Tryz.prog 60 #[.string ⟨pub.toArray⟩] w fun e w' => e = .returned (.bool (vpB pub)) ∧ w = w' := by
 have hp := bytes_size pub
 unfold vpB
 by_cases c1 : pub.length = 33
 ·rw [if_pos c1]
  rw [c1] at hp
  have hx : ∀ hh, ((⟨pub.toArray⟩ : ByteArray)[32]'hh).toNat = (pub.getD 32 0).toNat := fun hh => by
   have h0 : 32 < pub.length := by omega
   rw [at_byte pub 32 h0 hh, List.getD_eq_getElem?_getD, List.getElem?_eq_getElem h0]
   rfl
  have hlt := (pub.getD 32 0).toNat_lt
  obtain ⟨x, hxx⟩ : ∃ x, (pub.getD 32 0).toNat = x := ⟨_, rfl⟩
  rw [hxx] at hx hlt ⊢
  have e8 : wrap64 (x : Int) = (x : Int) := IntWalk.wrap64_in _ (by omega)
  have e9 : IntKind.i64.wrap (x : Int) = (x : Int) := by rw [IntKind.wrap_i64]; omega
  have hi : decide ((x : Int) ≤ 6) = decide (x ≤ 6) := by by_cases h : x ≤ 6 <;> simp [h] <;> omega
  clear hxx
  go_enter Tryz.func60, Tryz.ntmps60
  go_wp2
  go_ret
  refine ⟨ret_eq ?_, rfl⟩
  rw [← hi]
  simp
 ·rw [if_neg c1]
  have g1 : ((pub.length : Int) == 33) = false := by rw [beq_eq_false_iff_ne]; omega
  have g2 : ¬ ((pub.length : Int) = 33) := by omega
  go_enter Tryz.func60, Tryz.ntmps60
  go_wp2
  go_ret
  exact ⟨rfl, rfl⟩
theorem own_block {w : World} {base : Nat} {e : TypeId} {size n l c : Nat} {A : Option Addr} {xs : List Value} (h : w.ownsRow base e size (.slice A l c) n xs) (hn : 0 < n) : ∃ g, A = some ⟨g, 0, none⟩ ∧ g < w.heap.size := by
 rcases h.2 with ⟨h2, h3⟩ | ⟨g, cap, cur, hv, _, hg, _⟩
 ·omega
 ·injection hv with hv _ _
  exact ⟨g, hv, (Array.getElem?_eq_some_iff.1 hg).1⟩
theorem wraps_nat (x : Nat) (h : x < 1000000) : wrap64 (x : Int) = (x : Int) ∧ IntKind.i64.wrap (x : Int) = (x : Int) :=
 ⟨IntWalk.wrap64_in _ (by omega), by rw [IntKind.wrap_i64]; omega⟩
section
variable {pub : Sg.Str} {d : List Nat} {i : Int} {C T : List Sg.Str}
theorem verB_vp (h : vpB pub = false) : verB pub d i C T = false := by
 unfold vpB at h
 unfold verB
 by_cases c1 : pub.length = 33
 ·rw [if_pos c1] at h ⊢
  rw [if_neg (of_decide_eq_false h)]
 ·rw [if_neg c1]
theorem verB_len (h : ¬ C.length = 67) : verB pub d i C T = false := by unfold verB; simp [h]
theorem verB_vld (h : vld C = false) : verB pub d i C T = false := by unfold verB; simp [h]
theorem verB_lo (h : ¬ 0 ≤ i) : verB pub d i C T = false := by unfold verB; rw [if_neg h]; simp
theorem verB_hi (h : ¬ i < ((2 ^ (pub.getD 32 0).toNat : Nat) : Int)) : verB pub d i C T = false := by unfold verB; rw [if_neg h]; simp
end
set_option maxRecDepth 20000 in
set_option maxHeartbeats 4000000 in
theorem rverify_spec (pub msg : Sg.Str) (i : Int) (C T : List Sg.Str) (A B : Option Addr) (cC cT : Nat) (w : World) (hm : msg.length ≤ 1073741824) (hC : Rd w A (strs C)) (hT : Rd w B (strs T)) (h1 : C.length ≤ cC) (h2 : cC ≤ maxLen) (h3 : T.length ≤ cT) (h4 : cT ≤ maxLen) :
 Calls Tryz.prog 65 #[.string ⟨pub.toArray⟩, .string ⟨msg.toArray⟩, .agg #[.int .i64 i, .slice A C.length cC, .slice B T.length cT]] w fun e w' => e = .returned (.bool (verB pub (Sg.dgs msg) i C T)) ∧ Below w.heap.size w w' := by
 obtain ⟨d, hd⟩ : ∃ d, Sg.dgs msg = d := ⟨_, rfl⟩
 have hdl := Sg.dgs_len msg
 have hp := bytes_size pub
 have kd := fun W => rdigits_spec msg W hm
 have hdm : ∀ x ∈ d, x ≤ 15 := fun x hx => Sg.dgs_le msg x (by rw [hd]; exact hx)
 rw [hd] at hdl kd ⊢
 have f3 : ¬ (IntKind.i64.max < (C.length : Int)) := by unfold maxLen at h2; show ¬ ((9223372036854775807 : Int) < _); omega
 obtain ⟨W, hW⟩ : ∃ W, w.alloc (.cells #[.int .i64 i, .slice A C.length cC, .slice B T.length cT] 29) = W := ⟨_, rfl⟩
 have b0 : Below w.heap.size w W := by rw [← hW]; exact (Below.refl _ w).alloc (Nat.le_refl _) _
 have bl : Blk W w.heap.size 29 #[.int .i64 i, .slice A C.length cC, .slice B T.length cT] := by rw [← hW]; exact Blk.new w _ _
 have k0 := bl.cell 0
 have k1 := bl.cell 1
 have k2 := bl.cell 2
 have kv := vpub_spec pub W
 have kc := digests_spec A C cC W (hC.below b0) (by unfold maxLen at h2; omega)
 have hC' := hC.below b0
 clear bl hd
 cases c0 : vpB pub with
 | false =>
   rw [c0] at kv
   rw [verB_vp c0]
   clear c0
   go_enter Tryz.func65, Tryz.ntmps65
   go_wp2_with fail
   refine kv.mono ?_
   rintro e w1 ⟨rfl, rfl⟩
   go_wp2
   go_ret
   exact ⟨rfl, b0⟩
 | true =>
   rw [c0] at kv
   obtain ⟨c1, c2⟩ : pub.length = 33 ∧ (pub.getD 32 0).toNat ≤ 6 := by
    unfold vpB at c0
    by_cases c1 : pub.length = 33
    ·rw [if_pos c1] at c0
     exact ⟨c1, of_decide_eq_true c0⟩
    ·rw [if_neg c1] at c0; cases c0
   by_cases c5 : C.length = 67
   ·rw [c5] at k1 f3 hW h1 kc
    cases c6 : vld C with
    | false =>
      rw [c6] at kc
      rw [verB_vld c6, c5]
      clear c6 c0
      go_enter Tryz.func65, Tryz.ntmps65
      go_wp2_with fail
      refine kv.mono ?_
      rintro e w1 ⟨rfl, rfl⟩
      go_wp2_with fail
      refine kc.mono ?_
      rintro e w1 ⟨rfl, rfl⟩
      go_wp2
      go_ret
      exact ⟨rfl, b0⟩
    | true =>
      rw [c6] at kc
      have hx : ∀ hh, ((⟨pub.toArray⟩ : ByteArray)[32]'hh).toNat = (pub.getD 32 0).toNat := fun hh => by
       have h0 : 32 < pub.length := by omega
       rw [at_byte pub 32 h0 hh, List.getD_eq_getElem?_getD, List.getElem?_eq_getElem h0]
       rfl
      have hhi : ∀ P : Nat, 2 ^ (pub.getD 32 0).toNat = P → ¬ i < (P : Int) → verB pub d i C T = false := fun P hP h => verB_hi (by rw [hP]; exact h)
      have hok : ∀ P : Nat, 2 ^ (pub.getD 32 0).toNat = P → 0 ≤ i → i < (P : Int) → verB pub d i C T = incB (Mk.leaf (Sg.ends i.toNat d C 67)) i (P : Int) T (pub.take 32) := fun P hP h0 h1 => by
       unfold verB
       rw [if_pos c1, if_pos c2, if_pos h0, hP, if_pos h1, if_pos c5, if_pos c6]
      obtain ⟨x, hxx⟩ : ∃ x, (pub.getD 32 0).toNat = x := ⟨_, rfl⟩
      rw [hxx] at hx c2 hhi hok
      rw [c1] at hp
      obtain ⟨e8, e8'⟩ := wraps_nat x (Nat.lt_of_le_of_lt c2 (by decide))
      have e9 : min x 64 = x := Nat.min_eq_left (Nat.le_trans c2 (by decide))
      obtain ⟨P, hP⟩ : ∃ P, 2 ^ x = P := ⟨_, rfl⟩
      obtain ⟨e5, e6⟩ := shl_facts x P c2 hP
      have hP6 := pow6 c2
      have hhi' := hhi P hP
      have hok' := hok P hP
      rw [hP] at hP6
      clear hP hhi hok hxx c0
      by_cases c3 : 0 ≤ i
      ·have c3' : ¬ (i < 0) := by omega
       by_cases c4 : i < (P : Int)
       ·rw [hok' c3 c4]
        obtain ⟨n, rfl⟩ : ∃ n : Nat, i = (n : Int) := ⟨i.toNat, by omega⟩
        rw [Int.toNat_natCast, c5, ← rincB_eq]
        obtain ⟨q, hq⟩ : ∃ q, rincB (Mk.leaf (Sg.ends n d C 67)) (n : Int) (P : Int) T (pub.take 32) = q := ⟨_, rfl⟩
        rw [hq]
        have HB := Lib.hid hq
        clear hq
        have c4' : ¬ ((P : Int) ≤ (n : Int)) := by omega
        have HQ := Lib.hid (And.intro hdm (And.intro hC' (And.intro hT hdl)))
        clear hok' hhi' hdm hC hT hC' hm hdl
        go_enter Tryz.func65, Tryz.ntmps65
        go_wp2_with fail
        refine kv.mono ?_
        rintro e w1 ⟨rfl, rfl⟩
        go_wp2_with fail
        refine kc.mono ?_
        rintro e w1 ⟨rfl, rfl⟩
        go_wp2_with fail
        refine (kd W).mono ?_
        rintro e w2 ⟨A2, a2, rfl, ha2, hm2, t2⟩
        obtain ⟨b, off, rfl, hrow⟩ : ∃ b off, A = some ⟨b, off, none⟩ ∧ ∀ c, c < 67 → W.cell? ⟨b, off + c, none⟩ = some (.string ⟨(C.getD c []).toArray⟩) := by
         rcases HQ.out.2.1 with h | ⟨b, off, h, hh⟩
         ·have := congrArg List.length h
          rw [strs_length] at this
          simp at this
          rw [this] at c5
          cases c5
         ·refine ⟨b, off, h, fun c hc => ?_⟩
          rw [hh c (by rw [strs_length]; omega), List.getD_eq_getElem?_getD, List.getElem?_eq_getElem (by omega)]
          simp [strs]
        have hCl : ∀ c, (C.getD c []).length ≤ 32 := fun c => by
         rw [List.getD_eq_getElem?_getD]
         by_cases hc : c < C.length
         ·rw [List.getElem?_eq_getElem hc]
          exact Nat.le_of_eq ((vld_iff C).1 c6 _ (List.getElem_mem hc))
         ·rw [List.getElem?_eq_none (by omega)]
          simp
        have hdk : ∀ c, d.getD c 0 ≤ 15 := Sg.getD_le (d := d) HQ.out.1
        obtain ⟨g, rfl, hg⟩ := own_block t2.own (by decide)
        have hdr : ∀ W', St W.heap.size W W' [ownR 3 1 (.slice (some ⟨g, 0, none⟩) 67 a2) 67 (nints d)] → ∀ c, c < 67 → W'.cell? ⟨g, c, none⟩ = some (.int .i64 ((d.getD c 0 : Nat) : Int)) := fun W' h c hc => by
         have h3 := h.own.cells (g := g) rfl
         have := h3 c (.int .i64 ((d.getD c 0 : Nat) : Int)) (by
          unfold nints
          rw [List.getElem?_map, List.getD_eq_getElem?_getD, List.getElem?_eq_getElem (by rw [HQ.out.2.2.2]; exact hc)]
          rfl)
         rw [Addr.add_lit, Nat.zero_add] at this
         exact this
        have hends : ∀ k, (Sg.ends n d C k).length ≤ 32 * k := Sg.ends_le n d C 32 (by decide) hCl
        have HD := Lib.hid hdr
        have HR := Lib.hid hrow
        have hn64 : n < 64 := by omega
        have T2 := Lib.hid t2
        clear hdr hrow kd kv kc
        go_wp2_with fail
        go_loopw [9, 10] (fun s j wr => ∃ k : Nat, k ≤ 67 ∧ j = .int .i64 k ∧ s = .string ⟨(Sg.ends n d C k).toArray⟩ ∧ St W.heap.size W wr [ownR 3 1 (.slice (some ⟨g, 0, none⟩) 67 a2) 67 (nints d)]) (fun _ j _ => 67 - (intOf j).toNat)
        case atStart => exact ⟨0, by decide, rfl, rfl, T2.out⟩
        case round =>
         obtain ⟨k, hk, rfl, rfl, h⟩ := hrel
         by_cases hlt : k < 67
         ·have hl0 := hends k
          have hes := Sg.ends_succ n d C k
          have hd15 := hdk k
          have hcl := hCl k
          have kw : ∀ W', Calls Tryz.prog 103 #[.int .i64 (n : Int), .int .i64 (k : Int), .int .i64 ((d.getD k 0 : Nat) : Int), .int .i64 15, .string ⟨(C.getD k []).toArray⟩] W' fun e w' => e = .returned (.string ⟨(Sg.wlk n k (d.getD k 0) (15 - d.getD k 0) (C.getD k [])).toArray⟩) ∧ Below W'.heap.size W' w' := fun W' => by
           have := rstep_spec (C.getD k []) n k (d.getD k 0) (15 - d.getD k 0) W' (by omega) (by omega) (by omega) (by omega)
           rw [show ((d.getD k 0 : Nat) : Int) + ((15 - d.getD k 0 : Nat) : Int) = 15 by omega] at this
           exact this
          have hwl := Sg.wlk_le n k (d.getD k 0) 32 (by decide) (15 - d.getD k 0) (C.getD k []) hcl
          have hrc := HR.out k hlt
          have hdc := HD.out wr h k hlt
          have HDk := Lib.hid (fun W' h => HD.out W' h k hlt)
          generalize Sg.wlk n k (d.getD k 0) (15 - d.getD k 0) (C.getD k []) = f at kw hes hwl
          generalize d.getD k 0 = y at kw hd15 hdc HDk
          generalize C.getD k [] = z at kw hcl hrc
          generalize Sg.ends n d C k = E at hes hl0 ⊢
          have ha := bytes_append E f
          obtain ⟨f1, f2⟩ := sg_cat E f (by omega)
          generalize E ++ f = F at ha hes
          have HE := Lib.hid hes
          have y0 := h.drew
          have HW : ∀ W', St W.heap.size W W' [ownR 3 1 (.slice (some ⟨g, 0, none⟩) 67 a2) 67 (nints d)] → W'.cell? ⟨w.heap.size, 0, none⟩ = some (.int .i64 (n : Int)) ∧ W'.cell? ⟨w.heap.size, 1, none⟩ = some (.slice (some ⟨b, off, none⟩) 67 cC) ∧ W'.cell? ⟨b, off + k, none⟩ = some (.string ⟨z.toArray⟩) ∧ W'.cell? ⟨g, k, none⟩ = some (.int .i64 (y : Int)) := fun W' hb => ⟨below_cell hb.below k0, below_cell hb.below k1, below_cell hb.below hrc, HDk.out W' hb⟩
          have HWl := Lib.hid HW
          have i0 : (0 : Int) ≤ (k : Int) := by omega
          have i1 : (k : Int) < 67 := by omega
          have i2 : ¬ ((67 : Int) ≤ (k : Int)) := by omega
          have g1 : decide ((k : Int) < 67) = true := decide_eq_true i1
          clear HW hes hrc hdc h HDk
          go_wp2_with fail
          refine wp_region_noPanic ?_
          refine wp_region_held_drew (S := (fun w' => w'.cell? ⟨w.heap.size, 0, none⟩ = some (.int .i64 (n : Int)) ∧ w'.cell? ⟨w.heap.size, 1, none⟩ = some (.slice (some ⟨b, off, none⟩) 67 cC) ∧ w'.cell? ⟨b, off + k, none⟩ = some (.string ⟨z.toArray⟩) ∧ w'.cell? ⟨g, k, none⟩ = some (.int .i64 (y : Int)))) (by kernel_rfl) ?_ (fun hH0 => ?_)
          ·exact HWl.out _ y0
          refine tk 0 47 hH0 ?_
          refine tk 1 48 hH0 ?_
          refine tk 2 49 hH0 ?_
          refine tk 3 50 hH0 ?_
          refine tk 4 51 hH0 ?_
          refine tk 5 52 hH0 ?_
          refine tk 6 53 hH0 ?_
          refine tk 7 54 hH0 ?_
          refine tk 8 55 hH0 ?_
          refine tk 9 56 hH0 ?_
          refine tk 10 57 hH0 ?_
          refine tk 11 58 hH0 ?_
          refine tk 12 59 hH0 ?_
          refine rdy [13] ?_
          refine an 60 fun K hK => ?_
          go_simp; (
           with_reducible refine (kw _).mono ?_
           rintro e v1 ⟨rfl, b1⟩
           have y1 := y0.under b1); go_wp2_with fail
          refine hK.out _ _ ?_ (fun hH1 => ?_)
          ·exact HWl.out _ y1
          clear hK K hH0
          try simp only [pu]
          refine tk 14 61 hH1 ?_
          refine tk 15 9 hH1 ?_
          refine dn ?_ _
          all_goals (refine NoPanic.normal ?_)
          go_wp2
          go_roundw
          case rel => exact ⟨k + 1, by omega, by go_num, by rw [HE.out], y1⟩
          case measure => simp [intOf]; omega
         ·obtain rfl : k = 67 := by omega
          have hl0 := hends 67
          have hcut : (⟨pub.toArray⟩ : ByteArray).extract 0 32 = ⟨(pub.take 32).toArray⟩ := bytes_cut pub 0 32
          have ki := fun W' (hb : Below W.heap.size W W') => rincluded_spec (Mk.leaf (Sg.ends n d C 67)) (n : Int) (P : Int) B T cT (pub.take 32) W' ((HQ.out.2.2.1.below b0).below hb) h3 h4
          rw [HB.out] at ki
          generalize Sg.ends n d C 67 = E at hl0 ki ⊢
          have kl := fun W' => rleaf_spec E (by omega) W'
          generalize pub.take 32 = r at hcut ki
          have y0 := h.below.drew
          have HW : ∀ W', Below W.heap.size W W' → W'.cell? ⟨w.heap.size, 0, none⟩ = some (.int .i64 (n : Int)) ∧ W'.cell? ⟨w.heap.size, 2, none⟩ = some (.slice B T.length cT) := fun W' hb => ⟨below_cell hb k0, below_cell hb k2⟩
          have HWl := Lib.hid HW
          clear HW h hends
          go_wp2_with fail
          refine wp_region_noPanic ?_
          refine wp_region_held_drew (S := (fun w' => w'.cell? ⟨w.heap.size, 0, none⟩ = some (.int .i64 (n : Int)) ∧ w'.cell? ⟨w.heap.size, 2, none⟩ = some (.slice B T.length cT))) (by kernel_rfl) ?_ (fun hH0 => ?_)
          ·exact HWl.out _ y0
          refine tk 0 62 hH0 ?_
          refine tk 2 64 hH0 ?_
          refine tk 3 65 hH0 ?_
          refine tk 4 66 hH0 ?_
          refine tk 5 67 hH0 ?_
          refine tk 6 68 hH0 ?_
          refine tk 7 69 hH0 ?_
          refine tk 8 70 hH0 ?_
          refine rdy [1] ?_
          refine an 63 fun K hK => ?_
          go_simp; (
           with_reducible refine (kl _).mono ?_
           rintro e v1 ⟨rfl, b1⟩
           have y1 := y0.trans (b1.mono y0.size)); go_wp2_with fail
          refine hK.out _ _ ?_ (fun hH1 => ?_)
          ·exact HWl.out _ y1
          clear hK K hH0
          try simp only [pu]
          refine rdy [9] ?_
          refine an 71 fun K hK => ?_
          go_simp; (
           with_reducible refine (ki _ y1).mono ?_
           rintro e v2 ⟨rfl, b2⟩
           have y2 := y1.trans (b2.mono y1.size)); go_wp2_with fail
          refine hK.out _ _ ?_ (fun hH2 => ?_)
          ·exact HWl.out _ y2
          clear hK K hH1
          try simp only [pu]
          refine tk 10 6 hH2 ?_
          refine dn ?_ _
          all_goals (refine NoPanic.normal ?_)
          go_wp2
          go_ret
          exact ⟨rfl, b0.trans (y2.mono b0.size)⟩
       ·rw [hhi' c4, c5]
        have c4' : (P : Int) ≤ i := by omega
        clear hok' hhi' hdm hC hT hC' hm hdl
        go_enter Tryz.func65, Tryz.ntmps65
        go_wp2_with fail
        refine kv.mono ?_
        rintro e w1 ⟨rfl, rfl⟩
        go_wp2_with fail
        refine kc.mono ?_
        rintro e w1 ⟨rfl, rfl⟩
        go_wp2
        go_ret
        exact ⟨rfl, b0⟩
      ·have c3' : i < 0 := by omega
       rw [verB_lo c3, c5]
       clear hok' hhi' hdm hC hT hC' hm hdl
       go_enter Tryz.func65, Tryz.ntmps65
       go_wp2_with fail
       refine kv.mono ?_
       rintro e w1 ⟨rfl, rfl⟩
       go_wp2_with fail
       refine kc.mono ?_
       rintro e w1 ⟨rfl, rfl⟩
       go_wp2
       go_ret
       exact ⟨rfl, b0⟩
   ·rw [verB_len c5]
    have c5' : ¬ ((C.length : Int) = 67) := by omega
    clear c0
    go_enter Tryz.func65, Tryz.ntmps65
    go_wp2_with fail
    refine kv.mono ?_
    rintro e w1 ⟨rfl, rfl⟩
    go_wp2
    go_ret
    exact ⟨rfl, b0⟩
end Go.Proofs.YtjjpdnpbhdcpbaaGreat
