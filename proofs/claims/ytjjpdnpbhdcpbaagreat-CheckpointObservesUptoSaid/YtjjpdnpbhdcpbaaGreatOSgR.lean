/-
  The reference's Sign. Conditions: messages of at most 2^30 bytes.
-/
import Derived.Test.YtjjpdnpbhdcpbaaGreatQPc
import Derived.Test.YtjjpdnpbhdcpbaaGreatOSgP
import Derived.Test.YtjjpdnpbhdcpbaaGreatQCdB
import Derived.Test.YtjjpdnpbhdcpbaaGreatProg
import Derived.Test.YtjjpdnpbhdcpbaaGreatOPa
import Derived.Test.YtjjpdnpbhdcpbaaGreatQCdA
import Derived.Laws.DeepNot64
import Derived.Test.YtjjpdnpbhdcpbaaGreatQMkB
namespace Go.Proofs.YtjjpdnpbhdcpbaaGreat
set_option linter.unusedVariables false
open Go.RowKit Go.Shelf
attribute [local go_sem] Oper.semAt_some
theorem rsg_secret (seed : Sg.Str) (q : Nat) (hs : seed.length ≤ 1073741824) (hq : q < 9223372036854775808) (c : Nat) (hc : c < 67) (W' : World) : Calls Tryz.prog 104 #[.string ⟨seed.toArray⟩, .int .i64 (q : Int), .int .i64 (c : Int)] W' fun e w' => e = .returned (.string ⟨(Sg.sec seed q c).toArray⟩) ∧ Below W'.heap.size W' w' := rsecret_spec seed q c W' hs hq (by omega)
theorem rsg_walk (seed : Sg.Str) (q : Nat) (d : List Nat) (hdk : ∀ x ∈ d, x ≤ 15) (hq : q < 9223372036854775808) (c : Nat) (hc : c < 67) (W' : World) : Calls Tryz.prog 103 #[.int .i64 (q : Int), .int .i64 (c : Int), .int .i64 0, .int .i64 ((d.getD c 0 : Nat) : Int), .string ⟨(Sg.sec seed q c).toArray⟩] W' fun e w' => e = .returned (.string ⟨(Sg.wlk q c 0 (d.getD c 0) (Sg.sec seed q c)).toArray⟩) ∧ Below W'.heap.size W' w' := by
 have h := Sg.getD_le (d := d) hdk c
 have := rstep_spec (Sg.sec seed q c) q c 0 (d.getD c 0) W' (by rw [Sg.sec_len]; decide) hq (by omega) (by omega)
 rw [show (((0 : Nat)) : Int) = 0 from rfl, Int.zero_add] at this
 exact this
set_option maxRecDepth 20000 in
set_option maxHeartbeats 4000000 in
theorem rsign_spec (seed msg : Sg.Str) (h n : Int) (w : World) (hm : msg.length ≤ 1073741824) :
 Calls Tryz.prog 55 #[.agg #[.string ⟨seed.toArray⟩, .int .i64 h, .int .i64 n], .string ⟨msg.toArray⟩] w (SgP (signR seed h n (Sg.dgs msg)) w) := by
 obtain ⟨d, hd⟩ : ∃ d, Sg.dgs msg = d := ⟨_, rfl⟩
 have hdl := Sg.dgs_len msg
 obtain ⟨W0, hW0⟩ : ∃ W0, w.alloc (.cells #[.string ⟨seed.toArray⟩, .int .i64 h, .int .i64 n] 23) = W0 := ⟨_, rfl⟩
 have hs0 : W0.heap.size = w.heap.size + 1 := by rw [← hW0]; simp
 obtain ⟨W1, hW1⟩ : ∃ W1, W0.alloc (.cells #[.int .i64 0, .slice none 0 0, .slice none 0 0] 29) = W1 := ⟨_, rfl⟩
 have hs1 : W1.heap.size = w.heap.size + 1 + 1 := by rw [← hW1]; simp [hs0]
 obtain ⟨W, hW⟩ : ∃ W, W1.alloc (.cells #[.string ⟨#[]⟩, .int .i64 0, .int .i64 0] 23) = W := ⟨_, rfl⟩
 have h3 : St w.heap.size w W [cellsR (w.heap.size + 1 + 1) 23 #[.string ⟨#[]⟩, .int .i64 0, .int .i64 0], cellsR (w.heap.size + 1) 29 #[.int .i64 0, .slice none 0 0, .slice none 0 0], cellsR w.heap.size 23 #[.string ⟨seed.toArray⟩, .int .i64 h, .int .i64 n]] := by
  have := (((St.nil w).alloc 23 #[.string ⟨seed.toArray⟩, .int .i64 h, .int .i64 n]).alloc 29 #[.int .i64 0, .slice none 0 0, .slice none 0 0]).alloc 23 #[.string ⟨#[]⟩, .int .i64 0, .int .i64 0]
  rw [hW0, hW1, hW, hs0, hs1] at this
  exact this
 have kt := kvalid_ref seed h n W
 have kd := fun W' => rdigits_spec msg W' hm
 have hdm : ∀ x ∈ d, x ≤ 15 := fun x hx => Sg.dgs_le msg x (by rw [hd]; exact hx)
 have hdl' : d.length = 67 := by rw [← hd]; exact hdl
 have HDD := Lib.hid (And.intro hdm hdl')
 rw [hd] at kd
 clear hdm hdl'
 rw [hd]
 unfold signR
 have HB := Lib.hid (And.intro hd hdl)
 have c0 := h3.tail.tail.blk.cell 0
 have c1 := h3.tail.tail.blk.cell 1
 have c2 := h3.tail.tail.blk.cell 2
 cases hv : validB seed h n with
 | false =>
   rw [hv] at kt
   rw [if_neg (by simp)]
   clear hd hdl
   go_enter Tryz.func55, Tryz.ntmps55
   go_wp2_with fail
   refine kt.mono ?_
   rintro e w1 ⟨rfl, b1⟩
   have h4 := h3.under b1
   have d0 : w1.cell? ⟨w.heap.size + 1, 0, none⟩ = some (.int .i64 0) := h4.tail.blk.cell 0
   have d1 : w1.cell? ⟨w.heap.size + 1, 1, none⟩ = some (.slice none 0 0) := h4.tail.blk.cell 1
   have d2 : w1.cell? ⟨w.heap.size + 1, 2, none⟩ = some (.slice none 0 0) := h4.tail.blk.cell 2
   have e0 := h4.tail.blk.frozen 0
   have e1 := h4.tail.blk.frozen 1
   have e2 := h4.tail.blk.frozen 2
   have g0 : w1.cell? ⟨w.heap.size + 1 + 1, 0, none⟩ = some (.string ⟨#[]⟩) := h4.blk.cell 0
   have g1 : w1.cell? ⟨w.heap.size + 1 + 1, 1, none⟩ = some (.int .i64 0) := h4.blk.cell 1
   have g2 : w1.cell? ⟨w.heap.size + 1 + 1, 2, none⟩ = some (.int .i64 0) := h4.blk.cell 2
   have f0 := h4.blk.frozen 0
   have f1 := h4.blk.frozen 1
   have f2 := h4.blk.frozen 2
   have H4 := Lib.hid h4
   clear h4 c0 c1 c2 kt h3 b1
   go_wp2
   obtain ⟨k1, k2, k3⟩ := sg_stores H4.out rfl
   refine bodyPost_ret (results_cct rfl _ _ _ _ _ _ _ _ _ _ _ _ rfl k1 Tryz.underlying29 rfl size_sig rfl k2 Tryz.underlying23 rfl size_key) rfl ?_
   exact sgP_bad 1 k3.tail
 | true =>
   rw [hv] at kt
   rw [if_pos rfl]
   have hv' := hv
   unfold validB at hv'
   simp only [Bool.and_eq_true, decide_eq_true_eq] at hv'
   obtain ⟨ht, hn0, hn1⟩ := hv'
   obtain ⟨hsl, m, rfl, hm6⟩ := treeB_parts ht
   rw [Int.toNat_natCast] at hn1 ⊢
   obtain ⟨P, hP⟩ : ∃ P, 2 ^ m = P := ⟨_, rfl⟩
   obtain ⟨h5, h6⟩ := shl_facts m P hm6 hP
   have hP6 := pow6 hm6
   rw [hP] at hn1 hP6 ⊢
   obtain ⟨q, rfl⟩ : ∃ q : Nat, n = (q : Int) := ⟨n.toNat, by omega⟩
   rw [Int.toNat_natCast]
   clear hv ht hn0
   by_cases hqP : (q : Int) = (P : Int)
   ·rw [if_pos hqP]
    obtain rfl : q = P := by omega
    clear hqP
    go_enter Tryz.func55, Tryz.ntmps55
    go_wp2_with fail
    refine kt.mono ?_
    rintro e w1 ⟨rfl, b1⟩
    have h4 := h3.under b1
    have l0 : w1.drew.cell? ⟨w.heap.size, 0, none⟩ = some (.string ⟨seed.toArray⟩) := h4.drew.tail.tail.blk.cell 0
    have l1 : w1.drew.cell? ⟨w.heap.size, 1, none⟩ = some (.int .i64 (m : Int)) := h4.drew.tail.tail.blk.cell 1
    have l2 : w1.drew.cell? ⟨w.heap.size, 2, none⟩ = some (.int .i64 (q : Int)) := h4.drew.tail.tail.blk.cell 2
    have H4 := Lib.hid h4
    clear h4 c0 c1 c2 kt h3 b1
    go_wp2_with fail
    refine wp_region_noPanic ?_
    refine wp_region_held_drew (S := (fun w' => w'.cell? ⟨w.heap.size, 1, none⟩ = some (.int .i64 (m : Int)) ∧ w'.cell? ⟨w.heap.size, 2, none⟩ = some (.int .i64 (q : Int)))) (by kernel_rfl) ?_ (fun hH0 => ?_)
    ·exact ⟨l1, l2⟩
    refine tk 0 16 hH0 ?_
    refine tk 1 17 hH0 ?_
    refine tk 2 18 hH0 ?_
    refine tk 3 19 hH0 ?_
    refine tk 4 20 hH0 ?_
    refine tk 5 21 hH0 ?_
    refine dn ?_ _
    all_goals (refine NoPanic.normal ?_)
    have d0 : w1.cell? ⟨w.heap.size + 1, 0, none⟩ = some (.int .i64 0) := H4.out.tail.blk.cell 0
    have d1 : w1.cell? ⟨w.heap.size + 1, 1, none⟩ = some (.slice none 0 0) := H4.out.tail.blk.cell 1
    have d2 : w1.cell? ⟨w.heap.size + 1, 2, none⟩ = some (.slice none 0 0) := H4.out.tail.blk.cell 2
    have e0 := H4.out.tail.blk.frozen 0
    have e1 := H4.out.tail.blk.frozen 1
    have e2 := H4.out.tail.blk.frozen 2
    have g0 : w1.cell? ⟨w.heap.size + 1 + 1, 0, none⟩ = some (.string ⟨#[]⟩) := H4.out.blk.cell 0
    have g1 : w1.cell? ⟨w.heap.size + 1 + 1, 1, none⟩ = some (.int .i64 0) := H4.out.blk.cell 1
    have g2 : w1.cell? ⟨w.heap.size + 1 + 1, 2, none⟩ = some (.int .i64 0) := H4.out.blk.cell 2
    have f0 := H4.out.blk.frozen 0
    have f1 := H4.out.blk.frozen 1
    have f2 := H4.out.blk.frozen 2
    go_wp2
    obtain ⟨k1, k2, k3⟩ := sg_storesD (u0 := .int .i64 0) (u1 := .slice none 0 0) (u2 := .slice none 0 0) (v0 := .string ⟨#[]⟩) (v1 := .int .i64 0) (v2 := .int .i64 0) H4.out rfl
    refine bodyPost_ret (results_cct rfl _ _ _ _ _ _ _ _ _ _ _ _ rfl k1 Tryz.underlying29 rfl size_sig rfl k2 Tryz.underlying23 rfl size_key) rfl ?_
    exact sgP_bad 22 k3.tail
   ·rw [if_neg hqP]
    have hlt : q < P := by omega
    have hq64 : q < 9223372036854775808 := by omega
    have hc64 : ∀ c, c < 67 → c < 9223372036854775808 := fun c h => by omega
    have hs64 : seed.length ≤ 1073741824 := by omega
    have hf64 : ∀ y, y ≤ 15 → 0 + y ≤ 1000 := fun y h => by omega
    have hl64 : ∀ c, (Sg.sec seed q c).length ≤ 1073741824 := fun c => by rw [Sg.sec_len]; decide
    have hqP' : ¬ q = P := by omega
    have HQ := Lib.hid (wraps_succ q (by omega))
    go_enter Tryz.func55, Tryz.ntmps55
    go_wp2_with fail
    refine kt.mono ?_
    rintro e w1 ⟨rfl, b1⟩
    have h4 := h3.under b1
    have l0 : w1.drew.cell? ⟨w.heap.size, 0, none⟩ = some (.string ⟨seed.toArray⟩) := h4.drew.tail.tail.blk.cell 0
    have l1 : w1.drew.cell? ⟨w.heap.size, 1, none⟩ = some (.int .i64 (m : Int)) := h4.drew.tail.tail.blk.cell 1
    have l2 : w1.drew.cell? ⟨w.heap.size, 2, none⟩ = some (.int .i64 (q : Int)) := h4.drew.tail.tail.blk.cell 2
    have H4 := Lib.hid h4
    clear h4 c0 c1 c2 kt h3 b1
    go_wp2_with fail
    refine wp_region_noPanic ?_
    refine wp_region_held_drew (S := (fun w' => w'.cell? ⟨w.heap.size, 1, none⟩ = some (.int .i64 (m : Int)) ∧ w'.cell? ⟨w.heap.size, 2, none⟩ = some (.int .i64 (q : Int)))) (by kernel_rfl) ?_ (fun hH0 => ?_)
    ·exact ⟨l1, l2⟩
    refine tk 0 16 hH0 ?_
    refine tk 1 17 hH0 ?_
    refine tk 2 18 hH0 ?_
    refine tk 3 19 hH0 ?_
    refine tk 4 20 hH0 ?_
    refine tk 5 21 hH0 ?_
    refine dn ?_ _
    all_goals (refine NoPanic.normal ?_)
    have hltP := hlt
    clear hlt
    obtain ⟨hdm, hdl'⟩ := HDD.out
    have kS := rsg_secret seed q hs64 hq64
    have kW := rsg_walk seed q d hdm hq64
    have t0 := (H4.out.alloc 29 #[.int .i64 (q : Int), .slice none 0 0, .slice none 0 0]).drew
    obtain ⟨o, ho⟩ : ∃ o, w1.heap.size = o := ⟨_, rfl⟩
    go_wp2_with fail
    refine (kd _).mono ?_
    rintro e w2 ⟨A2, a2, rfl, ha2, hm2, t2⟩
    obtain ⟨g, rfl, hg⟩ := own_block t2.own (by decide)
    rw [ho] at t0
    have t3 : St w.heap.size w w2 (ownR 3 1 (.slice (some ⟨g, 0, none⟩) 67 a2) 67 (nints d) :: ownR 9 1 (.slice none 0 0) 0 (strs []) :: cellsR o 29 #[.int .i64 (q : Int), .slice none 0 0, .slice none 0 0] :: [cellsR (w.heap.size + 1 + 1) 23 #[.string ⟨#[]⟩, .int .i64 0, .int .i64 0], cellsR (w.heap.size + 1) 29 #[.int .i64 0, .slice none 0 0, .slice none 0 0], cellsR w.heap.size 23 #[.string ⟨seed.toArray⟩, .int .i64 (m : Int), .int .i64 (q : Int)]]) := ((t0.join t2).new_own (Below.refl _ _) (World.ownsRow_nil _ _ _ _)).swap
    have hdr : ∀ W' Rs, St w.heap.size w W' (ownR 3 1 (.slice (some ⟨g, 0, none⟩) 67 a2) 67 (nints d) :: Rs) → ∀ c, c < 67 → W'.cell? ⟨g, c, none⟩ = some (.int .i64 ((d.getD c 0 : Nat) : Int)) := fun W' Rs h c hc => by
     have h3 := h.own.cells (g := g) rfl
     have := h3 c (.int .i64 ((d.getD c 0 : Nat) : Int)) (by
      unfold nints
      rw [List.getElem?_map, List.getD_eq_getElem?_getD, List.getElem?_eq_getElem (by rw [hdl']; exact hc)]
      rfl)
     rw [Addr.add_lit, Nat.zero_add] at this
     exact this
    have HDR := Lib.hid hdr
    have T3 := Lib.hid t3
    have HQQ := HQ
    clear hdr t0 t2 t3 kd l0 l1 l2
    go_wp2_with fail
    go_loopw [9] (fun j wr => ∃ (k : Nat) (v : Value), k ≤ 67 ∧ j = .int .i64 k ∧ St w.heap.size w wr (ownR 3 1 (.slice (some ⟨g, 0, none⟩) 67 a2) 67 (nints d) :: ownR 9 1 v k (strs (Sg.chn seed q d k)) :: cellsR o 29 #[.int .i64 (q : Int), v, .slice none 0 0] :: [cellsR (w.heap.size + 1 + 1) 23 #[.string ⟨#[]⟩, .int .i64 0, .int .i64 0], cellsR (w.heap.size + 1) 29 #[.int .i64 0, .slice none 0 0, .slice none 0 0], cellsR w.heap.size 23 #[.string ⟨seed.toArray⟩, .int .i64 (m : Int), .int .i64 (q : Int)]])) (fun j _ => 67 - (intOf j).toNat)
    case atStart => exact ⟨0, _, by decide, rfl, T3.out⟩
    case round =>
     obtain ⟨k, v, hk, rfl, h⟩ := hrel
     by_cases hlt : k < 67
     ·have kSc := kS k hlt
      have kWc := kW k hlt
      have hcs := Sg.chn_succ seed q d k
      have HDk := Lib.hid (fun W' Rs h => HDR.out W' Rs h k hlt)
      generalize Sg.wlk q k 0 (d.getD k 0) (Sg.sec seed q k) = z at kWc hcs
      generalize d.getD k 0 = y at kWc HDk
      generalize Sg.sec seed q k = x at kSc kWc
      obtain ⟨Ls, hLs⟩ : ∃ Ls, strs (Sg.chn seed q d k) = Ls := ⟨_, rfl⟩
      have hz : strs (Sg.chn seed q d (k + 1)) = Ls ++ [.string ⟨z.toArray⟩] := by rw [hcs, strs_append, hLs]; rfl
      rw [hLs] at h
      have HZ := Lib.hid hz
      clear hz hcs hLs kS kW
      have hW : ∀ W' v' R2, St w.heap.size w W' (ownR 3 1 (.slice (some ⟨g, 0, none⟩) 67 a2) 67 (nints d) :: R2 :: cellsR o 29 #[.int .i64 (q : Int), v', .slice none 0 0] :: [cellsR (w.heap.size + 1 + 1) 23 #[.string ⟨#[]⟩, .int .i64 0, .int .i64 0], cellsR (w.heap.size + 1) 29 #[.int .i64 0, .slice none 0 0, .slice none 0 0], cellsR w.heap.size 23 #[.string ⟨seed.toArray⟩, .int .i64 (m : Int), .int .i64 (q : Int)]]) → W'.cell? ⟨w.heap.size, 0, none⟩ = some (.string ⟨seed.toArray⟩) ∧ W'.cell? ⟨w.heap.size, 2, none⟩ = some (.int .i64 (q : Int)) ∧ W'.cell? ⟨g, k, none⟩ = some (.int .i64 (y : Int)) := fun W' v' R2 hh => ⟨hh.tail.tail.tail.tail.tail.blk.cell 0, hh.tail.tail.tail.tail.tail.blk.cell 2, HDk.out W' _ hh⟩
      have hV : ∀ W' v' R1 R2 Rs, St w.heap.size w W' (R1 :: R2 :: cellsR o 29 #[.int .i64 (q : Int), v', .slice none 0 0] :: Rs) → W'.cell? ⟨o, 1, none⟩ = some v' ∧ W'.frozen? ⟨o, 1, none⟩ = false := fun W' v' R1 R2 Rs hh => ⟨hh.tail.tail.blk.cell 1, hh.tail.tail.blk.frozen 1⟩
      have HW := Lib.hid hW
      have HV := Lib.hid hV
      have y0 := h.drew
      obtain ⟨n0, z0⟩ := hV _ _ _ _ _ y0
      have q2 : k + 1 ≤ maxLen := by unfold maxLen; omega
      have q1 : (k + 1) * 16 ≤ 140737488355328 := by omega
      have i0 : (0 : Int) ≤ (k : Int) := by omega
      have i1 : (k : Int) < 67 := by omega
      have i2 : ¬ ((67 : Int) ≤ (k : Int)) := by omega
      have i3 : decide ((k : Int) < 67) = true := decide_eq_true i1
      clear hW hV h HDk
      go_wp2_with fail
      refine wp_region_noPanic ?_
      refine wp_region_held_drew (S := (fun w' => w'.cell? ⟨w.heap.size, 0, none⟩ = some (.string ⟨seed.toArray⟩) ∧ w'.cell? ⟨w.heap.size, 2, none⟩ = some (.int .i64 (q : Int)) ∧ w'.cell? ⟨g, k, none⟩ = some (.int .i64 (y : Int)))) (by kernel_rfl) ?_ (fun hH0 => ?_)
      ·exact HW.out _ _ _ y0
      refine tk 0 35 hH0 ?_
      refine tk 2 37 hH0 ?_
      refine tk 3 38 hH0 ?_
      refine tk 4 39 hH0 ?_
      refine tk 5 40 hH0 ?_
      refine tk 6 41 hH0 ?_
      refine tk 7 42 hH0 ?_
      refine tk 8 43 hH0 ?_
      refine tk 9 44 hH0 ?_
      refine tk 10 45 hH0 ?_
      refine tk 11 46 hH0 ?_
      refine tk 12 47 hH0 ?_
      refine tk 13 48 hH0 ?_
      refine rdy [1, 14] ?_
      refine ad 36 (fun K hK => ?_) ?_
      go_simp
      refine hK.out _ _ ?_ (fun hH1 => ?_)
      ·exact HW.out _ _ _ y0
      clear hK K hH0
      try simp only [pu]
      refine rdy [14] ?_
      refine an 49 fun K hK => ?_
      go_simp; (
       with_reducible refine (kSc _).mono ?_
       rintro e v1 ⟨rfl, b1⟩
       have y1 := y0.under b1
       obtain ⟨n1, z1⟩ := HV.out _ _ _ _ _ y1); go_wp2_with fail
      refine hK.out _ _ ?_ (fun hH2 => ?_)
      ·exact HW.out _ _ _ y1
      clear hK K hH1
      try simp only [pu]
      refine rdy [15] ?_
      refine an 50 fun K hK => ?_
      go_simp; (
       with_reducible refine (kWc _).mono ?_
       rintro e v2 ⟨rfl, b2⟩
       have y2 := y1.under b2
       obtain ⟨n2, z2⟩ := HV.out _ _ _ _ _ y2
       obtain ⟨n3, z3⟩ := HV.out _ _ _ _ _ (y2.alloc0 (.cells #[.string ⟨z.toArray⟩] 9))
       have xC := (Blk.new v2 9 #[.string ⟨z.toArray⟩]).cell 0); go_wp2_with fail
      refine hK.out _ _ ?_ (fun hH3 => ?_)
      ·exact HW.out _ _ _ y2
      clear hK K hH2
      try simp only [pu]
      refine rdy [16] ?_
      refine an 51 fun K hK => ?_
      go_simp
      refine hK.out _ _ ?_ (fun hH4 => ?_)
      ·exact HW.out _ _ _ (y2.alloc0 _)
      clear hK K hH3
      try simp only [pu]
      refine rdy [17] ?_
      refine an 52 fun K hK => ?_
      (
       refine stepG 27 (u := .string ⟨z.toArray⟩) v2.heap.size (y2.alloc0 (.cells #[.string ⟨z.toArray⟩] 9)).swap xC Tryz.underlying27 info_str rfl _ _ (by rfl) (by rfl) (by rfl) (by rfl) rfl q2 q1 ?_
       intro gg cap w5 h8
       have y4 := h8.swap
       obtain ⟨n4, z4⟩ := HV.out _ _ _ _ _ y4
       have y5 := fun u : Value => St.set_ (St.front 2 (by simp) y4) 1 u
       have p5 : ∀ u, (w5.setCell ⟨o, 1, none⟩ u).cell? ⟨w.heap.size, 0, none⟩ = some (.string ⟨seed.toArray⟩) ∧ (w5.setCell ⟨o, 1, none⟩ u).cell? ⟨w.heap.size, 2, none⟩ = some (.int .i64 (q : Int)) ∧ (w5.setCell ⟨o, 1, none⟩ u).cell? ⟨g, k, none⟩ = some (.int .i64 (y : Int)) := fun u => HW.out _ _ _ ((y5 u).pk [1, 2, 0, 3, 4, 5]))
      refine hK.out _ _ ?_ (fun hH5 => ?_)
      ·exact HW.out _ _ _ y4
      clear hK K hH4
      try simp only [pu]
      refine tk 18 53 hH5 ?_
      refine rdy [19] ?_
      refine az fun K hK => ?_
      go_simp
      refine hK.out _ _ ?_ (fun hH6 => ?_)
      ·exact p5 _
      clear hK K hH5
      try simp only [pu]
      refine dn ?_ _
      rotate_left 1
      refine an 49 fun K hK => ?_
      go_simp; (
       with_reducible refine (kSc _).mono ?_
       rintro e v1 ⟨rfl, b1⟩
       have y1 := y0.under b1
       obtain ⟨n1, z1⟩ := HV.out _ _ _ _ _ y1); go_wp2_with fail
      refine hK.out _ _ ?_ (fun hH7 => ?_)
      ·exact HW.out _ _ _ y1
      clear hK K hH0
      try simp only [pu]
      refine rdy [1, 15] ?_
      refine ad 36 (fun K hK => ?_) ?_
      go_simp
      refine hK.out _ _ ?_ (fun hH8 => ?_)
      ·exact HW.out _ _ _ y1
      clear hK K hH7
      try simp only [pu]
      refine rdy [15] ?_
      refine an 50 fun K hK => ?_
      go_simp; (
       with_reducible refine (kWc _).mono ?_
       rintro e v2 ⟨rfl, b2⟩
       have y2 := y1.under b2
       obtain ⟨n2, z2⟩ := HV.out _ _ _ _ _ y2
       obtain ⟨n3, z3⟩ := HV.out _ _ _ _ _ (y2.alloc0 (.cells #[.string ⟨z.toArray⟩] 9))
       have xC := (Blk.new v2 9 #[.string ⟨z.toArray⟩]).cell 0); go_wp2_with fail
      refine hK.out _ _ ?_ (fun hH9 => ?_)
      ·exact HW.out _ _ _ y2
      clear hK K hH8
      try simp only [pu]
      refine rdy [16] ?_
      refine an 51 fun K hK => ?_
      go_simp
      refine hK.out _ _ ?_ (fun hH10 => ?_)
      ·exact HW.out _ _ _ (y2.alloc0 _)
      clear hK K hH9
      try simp only [pu]
      refine rdy [17] ?_
      refine an 52 fun K hK => ?_
      (
       refine stepG 27 (u := .string ⟨z.toArray⟩) v2.heap.size (y2.alloc0 (.cells #[.string ⟨z.toArray⟩] 9)).swap xC Tryz.underlying27 info_str rfl _ _ (by rfl) (by rfl) (by rfl) (by rfl) rfl q2 q1 ?_
       intro gg cap w5 h8
       have y4 := h8.swap
       obtain ⟨n4, z4⟩ := HV.out _ _ _ _ _ y4
       have y5 := fun u : Value => St.set_ (St.front 2 (by simp) y4) 1 u
       have p5 : ∀ u, (w5.setCell ⟨o, 1, none⟩ u).cell? ⟨w.heap.size, 0, none⟩ = some (.string ⟨seed.toArray⟩) ∧ (w5.setCell ⟨o, 1, none⟩ u).cell? ⟨w.heap.size, 2, none⟩ = some (.int .i64 (q : Int)) ∧ (w5.setCell ⟨o, 1, none⟩ u).cell? ⟨g, k, none⟩ = some (.int .i64 (y : Int)) := fun u => HW.out _ _ _ ((y5 u).pk [1, 2, 0, 3, 4, 5]))
      refine hK.out _ _ ?_ (fun hH11 => ?_)
      ·exact HW.out _ _ _ y4
      clear hK K hH10
      try simp only [pu]
      refine tk 18 53 hH11 ?_
      refine rdy [19] ?_
      refine az fun K hK => ?_
      go_simp
      refine hK.out _ _ ?_ (fun hH12 => ?_)
      ·exact p5 _
      clear hK K hH11
      try simp only [pu]
      refine dn ?_ _
      rotate_left 1
      refine an 50 fun K hK => ?_
      go_simp; (
       with_reducible refine (kWc _).mono ?_
       rintro e v2 ⟨rfl, b2⟩
       have y2 := y1.under b2
       obtain ⟨n2, z2⟩ := HV.out _ _ _ _ _ y2
       obtain ⟨n3, z3⟩ := HV.out _ _ _ _ _ (y2.alloc0 (.cells #[.string ⟨z.toArray⟩] 9))
       have xC := (Blk.new v2 9 #[.string ⟨z.toArray⟩]).cell 0); go_wp2_with fail
      refine hK.out _ _ ?_ (fun hH13 => ?_)
      ·exact HW.out _ _ _ y2
      clear hK K hH7
      try simp only [pu]
      refine rdy [1, 16] ?_
      refine ad 36 (fun K hK => ?_) ?_
      go_simp
      refine hK.out _ _ ?_ (fun hH14 => ?_)
      ·exact HW.out _ _ _ y2
      clear hK K hH13
      try simp only [pu]
      refine rdy [16] ?_
      refine an 51 fun K hK => ?_
      go_simp
      refine hK.out _ _ ?_ (fun hH15 => ?_)
      ·exact HW.out _ _ _ (y2.alloc0 _)
      clear hK K hH14
      try simp only [pu]
      refine rdy [17] ?_
      refine an 52 fun K hK => ?_
      (
       refine stepG 27 (u := .string ⟨z.toArray⟩) v2.heap.size (y2.alloc0 (.cells #[.string ⟨z.toArray⟩] 9)).swap xC Tryz.underlying27 info_str rfl _ _ (by rfl) (by rfl) (by rfl) (by rfl) rfl q2 q1 ?_
       intro gg cap w5 h8
       have y4 := h8.swap
       obtain ⟨n4, z4⟩ := HV.out _ _ _ _ _ y4
       have y5 := fun u : Value => St.set_ (St.front 2 (by simp) y4) 1 u
       have p5 : ∀ u, (w5.setCell ⟨o, 1, none⟩ u).cell? ⟨w.heap.size, 0, none⟩ = some (.string ⟨seed.toArray⟩) ∧ (w5.setCell ⟨o, 1, none⟩ u).cell? ⟨w.heap.size, 2, none⟩ = some (.int .i64 (q : Int)) ∧ (w5.setCell ⟨o, 1, none⟩ u).cell? ⟨g, k, none⟩ = some (.int .i64 (y : Int)) := fun u => HW.out _ _ _ ((y5 u).pk [1, 2, 0, 3, 4, 5]))
      refine hK.out _ _ ?_ (fun hH16 => ?_)
      ·exact HW.out _ _ _ y4
      clear hK K hH15
      try simp only [pu]
      refine tk 18 53 hH16 ?_
      refine rdy [19] ?_
      refine az fun K hK => ?_
      go_simp
      refine hK.out _ _ ?_ (fun hH17 => ?_)
      ·exact p5 _
      clear hK K hH16
      try simp only [pu]
      refine dn ?_ _
      rotate_left 1
      refine an 51 fun K hK => ?_
      go_simp
      refine hK.out _ _ ?_ (fun hH18 => ?_)
      ·exact HW.out _ _ _ (y2.alloc0 _)
      clear hK K hH13
      try simp only [pu]
      refine rdy [1] ?_
      refine an 36 fun K hK => ?_
      go_simp
      refine hK.out _ _ ?_ (fun hH19 => ?_)
      ·exact HW.out _ _ _ (y2.alloc0 _)
      clear hK K hH18
      try simp only [pu]
      refine rdy [17] ?_
      refine an 52 fun K hK => ?_
      (
       refine stepG 27 (u := .string ⟨z.toArray⟩) v2.heap.size (y2.alloc0 (.cells #[.string ⟨z.toArray⟩] 9)).swap xC Tryz.underlying27 info_str rfl _ _ (by rfl) (by rfl) (by rfl) (by rfl) rfl q2 q1 ?_
       intro gg cap w5 h8
       have y4 := h8.swap
       obtain ⟨n4, z4⟩ := HV.out _ _ _ _ _ y4
       have y5 := fun u : Value => St.set_ (St.front 2 (by simp) y4) 1 u
       have p5 : ∀ u, (w5.setCell ⟨o, 1, none⟩ u).cell? ⟨w.heap.size, 0, none⟩ = some (.string ⟨seed.toArray⟩) ∧ (w5.setCell ⟨o, 1, none⟩ u).cell? ⟨w.heap.size, 2, none⟩ = some (.int .i64 (q : Int)) ∧ (w5.setCell ⟨o, 1, none⟩ u).cell? ⟨g, k, none⟩ = some (.int .i64 (y : Int)) := fun u => HW.out _ _ _ ((y5 u).pk [1, 2, 0, 3, 4, 5]))
      refine hK.out _ _ ?_ (fun hH20 => ?_)
      ·exact HW.out _ _ _ y4
      clear hK K hH19
      try simp only [pu]
      refine tk 18 53 hH20 ?_
      refine rdy [19] ?_
      refine az fun K hK => ?_
      go_simp
      refine hK.out _ _ ?_ (fun hH21 => ?_)
      ·exact p5 _
      clear hK K hH20
      try simp only [pu]
      refine dn ?_ _
      all_goals (refine NoPanic.normal ?_)
      all_goals
       have y9 := y5 (.slice (some ⟨gg, 0, none⟩) (k + 1) cap)
       have Y9 := Lib.hid y9
       clear y9 y5 p5 y4 h8 y0 y1 y2 n0 z0 n1 z1 n2 z2 n3 z3 n4 z4
       go_wp2
       go_roundw
       case rel =>
        refine ⟨k + 1, .slice (some ⟨gg, 0, none⟩) (k + 1) cap, by omega, by go_num, ?_⟩
        rw [HZ.out]
        exact (Y9.out.pk [1, 2, 0, 3, 4, 5])
       case measure => simp [intOf]; omega
     ·obtain rfl : k = 67 := by omega
      obtain ⟨va, vc, rfl, _⟩ := own_form h.tail.own
      have y0 := h.drew
      have hC : ∀ W' cs, Blk W' w.heap.size 23 #[.string ⟨seed.toArray⟩, .int .i64 (m : Int), cs] → W'.cell? ⟨w.heap.size, 0, none⟩ = some (.string ⟨seed.toArray⟩) ∧ W'.cell? ⟨w.heap.size, 1, none⟩ = some (.int .i64 (m : Int)) ∧ W'.cell? ⟨w.heap.size, 2, none⟩ = some cs := fun W' cs hh => ⟨hh.cell 0, hh.cell 1, hh.cell 2⟩
      have HC := Lib.hid hC
      obtain ⟨l0, l1, l2⟩ := hC _ _ y0.tail.tail.tail.tail.tail.blk
      have hll := Sg.lvs_len seed P
      have kL : ∀ W', Calls Tryz.prog 90 #[.agg #[.string ⟨seed.toArray⟩, .int .i64 (m : Int), .int .i64 (q : Int)]] W' (KlP (Sg.lvs seed P) P W') := fun W' => by
       have := rleaves_spec seed m (q : Int) W' hs64 hm6
       unfold SlR at this
       rw [hP, hll] at this
       exact this
      have hincl : mInc (Sg.lvs seed P) (q : Int) = (Mk.incl (Sg.lvs seed P) q, 0) := mInc_ok (Sg.lvs_dig _ _) (by rw [hll]; exact Nat.le_trans hP6 (by decide)) q (by rw [hll]; exact hltP)
      have kI : ∀ W' A c, Rd W' A (strs (Sg.lvs seed P)) → P ≤ c → c ≤ maxLen → Calls Tryz.prog 105 #[.slice A P c, .int .i64 (q : Int)] W' (PrP (Mk.incl (Sg.lvs seed P) q, 0) W') := fun W' A c h1 h2 h3 => by
       have := inc_rk A (Sg.lvs seed P) c (q : Int) W' h1 (by rw [hll]; exact Nat.le_trans hP6 (by decide)) (by rw [hll]; exact h2) h3
       rw [hincl, hll] at this
       exact this
      obtain ⟨I, hI⟩ : ∃ I, Mk.incl (Sg.lvs seed P) q = I := ⟨_, rfl⟩
      rw [hI] at kI
      have HI := Lib.hid hI
      generalize Sg.lvs seed P = L at kL kI
      have i3 : decide ((67 : Int) < 67) = false := by decide
      clear hI hC hincl hll h kS kW
      go_wp2_with fail
      refine wp_region_noPanic ?_
      refine wp_region_held_drew (S := (fun w' => w'.cell? ⟨w.heap.size, 0, none⟩ = some (.string ⟨seed.toArray⟩) ∧ w'.cell? ⟨w.heap.size, 1, none⟩ = some (.int .i64 (m : Int)) ∧ w'.cell? ⟨w.heap.size, 2, none⟩ = some (.int .i64 (q : Int)))) (by kernel_rfl) ?_ (fun hH0 => ?_)
      ·exact HC.out _ _ y0.tail.tail.tail.tail.tail.blk
      refine tk 0 55 hH0 ?_
      refine tk 2 57 hH0 ?_
      refine tk 3 58 hH0 ?_
      refine rdy [1] ?_
      refine an 56 fun K hK => ?_
      go_simp; (
       with_reducible refine (kL _).mono ?_
       rintro e v1 ⟨A1, a1, rfl, ha1, hm1, t1⟩
       have y1 := y0.join t1
       have rL := Rd.of_own t1.own); go_wp2_with fail
      refine hK.out _ _ ?_ (fun hH1 => ?_)
      ·exact HC.out _ _ y1.tail.tail.tail.tail.tail.tail.blk
      clear hK K hH0
      try simp only [pu]
      refine rdy [4] ?_
      refine an 59 fun K hK => ?_
      go_simp; (
       with_reducible refine (kI _ A1 a1 rL ha1 hm1).mono ?_
       rintro e v2 ⟨pv, rfl, t2⟩
       obtain ⟨pa, pc, rfl, _⟩ := own_form t2.own
       have y2 := y1.join t2
       have n2 : v2.cell? ⟨o, 2, none⟩ = some (.slice none 0 0) := y2.tail.tail.tail.tail.blk.cell 2
       have z2 := y2.tail.tail.tail.tail.blk.frozen 2
       have y5 := fun u : Value => St.set_ (St.front 4 (by simp) y2) 2 u
       have p5 : ∀ u, (v2.setCell ⟨o, 2, none⟩ u).cell? ⟨w.heap.size, 0, none⟩ = some (.string ⟨seed.toArray⟩) ∧ (v2.setCell ⟨o, 2, none⟩ u).cell? ⟨w.heap.size, 1, none⟩ = some (.int .i64 (m : Int)) ∧ (v2.setCell ⟨o, 2, none⟩ u).cell? ⟨w.heap.size, 2, none⟩ = some (.int .i64 (q : Int)) := fun u => HC.out _ _ (y5 u).tail.tail.tail.tail.tail.tail.tail.blk); go_wp2_with fail
      refine hK.out _ _ ?_ (fun hH2 => ?_)
      ·exact HC.out _ _ y2.tail.tail.tail.tail.tail.tail.tail.blk
      clear hK K hH1
      try simp only [pu]
      refine tk 5 54 hH2 ?_
      refine tk 6 60 hH2 ?_
      refine tk 7 61 hH2 ?_
      refine tk 8 62 hH2 ?_
      refine rdy [9] ?_
      refine az fun K hK => ?_
      go_simp
      refine hK.out _ _ ?_ (fun hH3 => ?_)
      ·exact p5 _
      clear hK K hH2
      try simp only [pu]
      refine dn ?_ _
      all_goals (refine NoPanic.normal ?_)
      have y6 : St w.heap.size w _ [cellsR w.heap.size 23 #[.string ⟨seed.toArray⟩, .int .i64 (m : Int), .int .i64 (q : Int)], cellsR o 29 #[.int .i64 (q : Int), .slice va 67 vc, .slice pa I.length pc], cellsR (w.heap.size + 1 + 1) 23 #[.string ⟨#[]⟩, .int .i64 0, .int .i64 0], cellsR (w.heap.size + 1) 29 #[.int .i64 0, .slice none 0 0, .slice none 0 0], ownR 9 1 (.slice va 67 vc) 67 (strs (Sg.chn seed q d 67)), ownR 9 1 (.slice pa I.length pc) I.length (strs I)] := (y5 (.slice pa I.length pc)).pk [7, 0, 5, 6, 4, 1]
      obtain ⟨W3, hW3⟩ : ∃ W3, v2.setCell ⟨o, 2, none⟩ (.slice pa I.length pc) = W3 := ⟨_, rfl⟩
      rw [hW3] at y6 ⊢
      obtain ⟨qw, qw'⟩ := HQ.out
      clear y5 p5 n2 z2 hH3 hW3 l0 l1 l2 kL kI rL y2 y1 y0 t1 t2
      have c0 := y6.blk.cell 0
      have c1 := y6.blk.cell 1
      have c2 := y6.blk.cell 2
      have c2' : (W3.alloc (.cells #[.string ⟨seed.toArray⟩, .int .i64 (m : Int), .int .i64 (q : Int)] 23)).cell? ⟨w.heap.size, 2, none⟩ = some (.int .i64 (q : Int)) := (y6.alloc0 (.cells #[.string ⟨seed.toArray⟩, .int .i64 (m : Int), .int .i64 (q : Int)] 23)).blk.cell 2
      have y7 := y6.alloc 23 #[.string ⟨seed.toArray⟩, .int .i64 (m : Int), .int .i64 ((q : Int) + 1)]
      have Y7 := Lib.hid y7
      clear y6 y7
      go_wp2_with fail
      obtain ⟨p, hp⟩ : ∃ p, W3.heap.size = p := ⟨_, rfl⟩
      have y7 := Y7.out
      obtain ⟨W4, hW4⟩ : ∃ W4, W3.alloc (.cells #[.string ⟨seed.toArray⟩, .int .i64 (m : Int), .int .i64 ((q : Int) + 1)] 23) = W4 := ⟨_, rfl⟩
      rw [hW4, hp] at y7
      rw [hW4, hp]
      have y7 := y7.pk [0, 2, 3, 4, 5, 6]
      clear c0 c1 c2 c2' hW4 qw qw' hp
      have y7 : St w.heap.size w W4 [cellsR p 23 #[.string ⟨seed.toArray⟩, .int .i64 (m : Int), .int .i64 ((q : Int) + 1)], cellsR o 29 #[.int .i64 (q : Int), .slice va 67 vc, .slice pa I.length pc], cellsR (w.heap.size + 1 + 1) 23 #[.string ⟨#[]⟩, .int .i64 0, .int .i64 0], cellsR (w.heap.size + 1) 29 #[.int .i64 0, .slice none 0 0, .slice none 0 0], ownR 9 1 (.slice va 67 vc) 67 (strs (Sg.chn seed q d 67)), ownR 9 1 (.slice pa I.length pc) I.length (strs I)] := y7
      have S2 : ∀ W', St w.heap.size w W' (cellsR p 23 #[.string ⟨seed.toArray⟩, .int .i64 (m : Int), .int .i64 ((q : Int) + 1)] :: cellsR o 29 #[.int .i64 (q : Int), .slice va 67 vc, .slice pa I.length pc] :: []) → W'.cell? ⟨p, 0, none⟩ = some (.string ⟨seed.toArray⟩) ∧ W'.cell? ⟨p, 1, none⟩ = some (.int .i64 (m : Int)) ∧ W'.cell? ⟨p, 2, none⟩ = some (.int .i64 ((q : Int) + 1)) ∧ W'.cell? ⟨o, 0, none⟩ = some (.int .i64 (q : Int)) ∧ W'.cell? ⟨o, 1, none⟩ = some (.slice va 67 vc) ∧ W'.cell? ⟨o, 2, none⟩ = some (.slice pa I.length pc) := fun W' hh => ⟨hh.blk.cell 0, hh.blk.cell 1, hh.blk.cell 2, hh.tail.blk.cell 0, hh.tail.blk.cell 1, hh.tail.blk.cell 2⟩
      have HS := Lib.hid S2
      clear S2
      have g0 : W4.cell? ⟨w.heap.size + 1 + 1, 0, none⟩ = some (.string ⟨#[]⟩) := y7.tail.tail.blk.cell 0
      have g1 : W4.cell? ⟨w.heap.size + 1 + 1, 1, none⟩ = some (.int .i64 0) := y7.tail.tail.blk.cell 1
      have g2 : W4.cell? ⟨w.heap.size + 1 + 1, 2, none⟩ = some (.int .i64 0) := y7.tail.tail.blk.cell 2
      have a0 := y7.tail.tail.blk.frozen 0
      have a1 := y7.tail.tail.blk.frozen 1
      have a2 := y7.tail.tail.blk.frozen 2
      have d0 : W4.cell? ⟨w.heap.size + 1, 0, none⟩ = some (.int .i64 0) := y7.tail.tail.tail.blk.cell 0
      have d1 : W4.cell? ⟨w.heap.size + 1, 1, none⟩ = some (.slice none 0 0) := y7.tail.tail.tail.blk.cell 1
      have d2 : W4.cell? ⟨w.heap.size + 1, 2, none⟩ = some (.slice none 0 0) := y7.tail.tail.tail.blk.cell 2
      have b0 := y7.tail.tail.tail.blk.frozen 0
      have b1 := y7.tail.tail.tail.blk.frozen 1
      have b2 := y7.tail.tail.tail.blk.frozen 2
      have yA := fun u0 u1 u2 : Value => ((((St.front 3 (by simp) y7).set_ 0 u0).set_ 1 u1).set_ 2 u2)
      have yC := fun u0 u1 u2 v0 v1 v2 : Value => ((((St.front 3 (by simp) (yA u0 u1 u2)).set_ 0 v0).set_ 1 v1).set_ 2 v2)
      have p0 := HS.out _ (y7.drew.pk [0, 1])
      have pA := fun u0 u1 u2 : Value => HS.out _ ((yA u0 u1 u2).drew.pk [1, 2])
      have pC := fun u0 u1 u2 v0 v1 v2 : Value => HS.out _ ((yC u0 u1 u2 v0 v1 v2).drew.pk [2, 3])
      have HY := Lib.hid yC
      clear yA yC
      refine wp_region_noPanic ?_
      refine wp_region_held_drew (S := (fun w' => w'.cell? ⟨p, 0, none⟩ = some (.string ⟨seed.toArray⟩) ∧ w'.cell? ⟨p, 1, none⟩ = some (.int .i64 (m : Int)) ∧ w'.cell? ⟨p, 2, none⟩ = some (.int .i64 ((q : Int) + 1)) ∧ w'.cell? ⟨o, 0, none⟩ = some (.int .i64 (q : Int)) ∧ w'.cell? ⟨o, 1, none⟩ = some (.slice va 67 vc) ∧ w'.cell? ⟨o, 2, none⟩ = some (.slice pa I.length pc))) (by kernel_rfl) ?_ (fun hH0 => ?_)
      ·with_reducible exact p0
      refine tk 0 68 hH0 ?_
      refine tk 1 69 hH0 ?_
      refine rdy [2] ?_
      refine az fun K hK => ?_
      go_simp
      refine hK.out _ _ ?_ (fun hH1 => ?_)
      ·with_reducible exact pA _ _ _
      clear hK K hH0
      try simp only [pu]
      refine rdy [3] ?_
      refine az fun K hK => ?_
      go_simp
      refine hK.out _ _ ?_ (fun hH2 => ?_)
      ·with_reducible exact pC _ _ _ _ _ _
      clear hK K hH1
      try simp only [pu]
      refine tk 4 6 hH2 ?_
      refine dn ?_ _
      all_goals (refine NoPanic.normal ?_)
      go_wp2
      have y9 := (HY.out (.int .i64 (q : Int)) (.slice va 67 vc) (.slice pa I.length pc) (.string ⟨seed.toArray⟩) (.int .i64 (m : Int)) (.int .i64 ((q : Int) + 1))).drew
      refine bodyPost_ret (results_cct rfl _ _ _ _ _ _ _ _ _ _ _ _ rfl y9.tail.blk Tryz.underlying29 rfl size_sig rfl y9.blk Tryz.underlying23 rfl size_key) rfl ?_
      refine ⟨_, _, rfl, ?_⟩
      simp only [Sg.chn_len, HI.out]
      exact y9.pk [4, 5]
end Go.Proofs.YtjjpdnpbhdcpbaaGreat
