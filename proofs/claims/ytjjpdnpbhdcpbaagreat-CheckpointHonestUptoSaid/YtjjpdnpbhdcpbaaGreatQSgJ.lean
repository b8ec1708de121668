/-
  What Sign returns, in the program. Conditions: messages of at most 2^30 bytes.
-/
import Derived.Test.YtjjpdnpbhdcpbaaGreatQSgI
import Derived.Test.YtjjpdnpbhdcpbaaGreatQMkB
import Derived.RangeFuncFrom
namespace Go.Proofs.YtjjpdnpbhdcpbaaGreat
set_option linter.unusedVariables false
open Go.RowKit Go.Shelf
attribute [local go_sem] Oper.semAt_some
theorem results_cct {P : Program} {fn : Func} {p q u : Tmp} {ty uy : TypeId} (h : fn.results = #[.cell p ty, .cell q uy, .tmp u]) (tmps : Array Value) (w : World) (g g2 : Nat) (t t2 : TypeId) (cs cs2 : Array Value) (fr fr2 : Nat × Nat) (d d2 : TypeDesc)
 (hp : tmps.getD p undef = .pointer (some ⟨g, 0, none⟩)) (hg : w.heap[g]? = some (.cells cs t fr)) (hu : P.underlying ty = some d) (hd : (match d with | .struct _ | .array _ _ => true | _ => false) = true) (hi : (P.info? ty).map (·.size) = some cs.size)
 (hp2 : tmps.getD q undef = .pointer (some ⟨g2, 0, none⟩)) (hg2 : w.heap[g2]? = some (.cells cs2 t2 fr2)) (hu2 : P.underlying uy = some d2) (hd2 : (match d2 with | .struct _ | .array _ _ => true | _ => false) = true) (hi2 : (P.info? uy).map (·.size) = some cs2.size) :
 (results fn tmps).run P w = .ok (.tuple #[.agg cs, .agg cs2, tmps.getD u undef]) w := by
 have hp' : tmps[p]?.getD undef = .pointer (some ⟨g, 0, none⟩) := by simpa using hp
 have hp2' : tmps[q]?.getD undef = .pointer (some ⟨g2, 0, none⟩) := by simpa using hp2
 simp [results, h, hp', hp2', asAddr, run_loadVar_row w g t ty cs fr d hg hu hd hi, run_loadVar_row w g2 t2 uy cs2 fr2 d2 hg2 hu2 hd2 hi2]
theorem size_sig : (Tryz.prog.info? 29).map (·.size) = some 3 := by kernel_rfl
theorem wraps_succ (q : Nat) (h : q < 1000000) : wrap64 ((q : Int) + 1) = (q : Int) + 1 ∧ IntKind.i64.wrap ((q : Int) + 1) = (q : Int) + 1 :=
 ⟨IntWalk.wrap64_in _ (by omega), by rw [IntKind.wrap_i64]; omega⟩
theorem sg_end {lo D : Nat} {w w1 : World} {Rs : List Res} (h : St lo w w1 Rs) (hc : ∀ R ∈ Rs, Celled R) (hD : lo ≤ D) (hK : w1.heap[D]? = some (.deferred (some []))) : St lo w (w1.putObj D (.deferred none)) Rs :=
 h.grown hc (grownBy_putObj' w1 D _) (fun r e => by
  cases e
  exact ⟨hD, _, hK, rfl⟩)
def signR (seed : Sg.Str) (h n : Int) (d : List Nat) : (Int × List Sg.Str × List Sg.Str) × (Sg.Str × Int × Int) × Int :=
 if validB seed h n = true then
  if n = ((2 ^ h.toNat : Nat) : Int) then ((0, [], []), ([], 0, 0), 22)
  else ((n, Sg.chn seed n.toNat d 67, Mk.incl (Sg.lvs seed (2 ^ h.toNat)) n.toNat), (seed, h, n + 1), 0)
 else ((0, [], []), ([], 0, 0), 1)
def SgP (x : (Int × List Sg.Str × List Sg.Str) × (Sg.Str × Int × Int) × Int) (w : World) (e : Ending) (w' : World) : Prop :=
 ∃ a b, e = .returned (.tuple #[.agg #[.int .i64 x.1.1, a, b], .agg (keyA x.2.1.1 x.2.1.2.1 x.2.1.2.2), .int .i64 x.2.2]) ∧ St w.heap.size w w' [ownR 9 1 a x.1.2.1.length (strs x.1.2.1), ownR 9 1 b x.1.2.2.length (strs x.1.2.2)]
theorem sgP_bad (er : Int) {w w' : World} (h : St w.heap.size w w' []) : SgP ((0, [], []), ([], 0, 0), er) w (.returned (.tuple #[.agg #[.int .i64 0, .slice none 0 0, .slice none 0 0], .agg #[.string ⟨#[]⟩, .int .i64 0, .int .i64 0], .int .i64 er])) w' :=
 ⟨_, _, rfl, (h.new_own (Below.refl _ _) (World.ownsRow_nil _ _ _ _)).new_own (Below.refl _ _) (World.ownsRow_nil _ _ _ _)⟩
theorem sg_stores {lo s : Nat} {w w1 : World} {Rs : List Res} {x0 x1 x2 y0 y1 y2 u0 u1 u2 v0 v1 v2 : Value} (h : St lo w w1 (cellsR (s + 1 + 1) 23 #[y0, y1, y2] :: cellsR (s + 1) 29 #[x0, x1, x2] :: Rs)) {wf : World}
 (hw : wf = (((((w1.setCell ⟨s + 1, 0, none⟩ u0).setCell ⟨s + 1, 1, none⟩ u1).setCell ⟨s + 1, 2, none⟩ u2).setCell ⟨s + 1 + 1, 0, none⟩ v0).setCell ⟨s + 1 + 1, 1, none⟩ v1).setCell ⟨s + 1 + 1, 2, none⟩ v2) :
 Blk wf (s + 1) 29 #[u0, u1, u2] ∧ Blk wf (s + 1 + 1) 23 #[v0, v1, v2] ∧ St lo w wf Rs := by
 subst hw
 have h1 := (((h.swap.set_ 0 u0).set_ 1 u1).set_ 2 u2).swap
 have h2 := ((h1.set_ 0 v0).set_ 1 v1).set_ 2 v2
 exact ⟨h2.tail.blk, h2.blk, h2.tail.tail⟩
theorem sg_storesD {lo s : Nat} {w w1 : World} {Rs : List Res} {x0 x1 x2 y0 y1 y2 u0 u1 u2 v0 v1 v2 : Value} (h : St lo w w1 (cellsR (s + 1 + 1) 23 #[y0, y1, y2] :: cellsR (s + 1) 29 #[x0, x1, x2] :: Rs)) {wf : World}
 (hw : wf = ((((((w1.setCell ⟨s + 1, 0, none⟩ u0).setCell ⟨s + 1, 1, none⟩ u1).setCell ⟨s + 1, 2, none⟩ u2).setCell ⟨s + 1 + 1, 0, none⟩ v0).setCell ⟨s + 1 + 1, 1, none⟩ v1).setCell ⟨s + 1 + 1, 2, none⟩ v2).drew) :
 Blk wf (s + 1) 29 #[u0, u1, u2] ∧ Blk wf (s + 1 + 1) 23 #[v0, v1, v2] ∧ St lo w wf Rs := by
 subst hw
 have h1 := (((h.swap.set_ 0 u0).set_ 1 u1).set_ 2 u2).swap
 have h2 := ((h1.set_ 0 v0).set_ 1 v1).set_ 2 v2
 exact ⟨h2.drew.tail.blk, h2.drew.blk, h2.drew.tail.tail⟩
theorem sg_secret (seed : Sg.Str) (q : Nat) (hs : seed.length ≤ 1073741824) (hq : q < 9223372036854775808) (c : Nat) (hc : c < 67) (W' : World) : Calls Tryz.prog 98 #[.string ⟨seed.toArray⟩, .int .i64 (q : Int), .int .i64 (c : Int)] W' fun e w' => e = .returned (.string ⟨(Sg.sec seed q c).toArray⟩) ∧ Below W'.heap.size W' w' := secret_spec seed q c W' hs hq (by omega)
theorem sg_walk (seed : Sg.Str) (q : Nat) (d : List Nat) (f : Nat → Sg.Str) (hf : f = fun c => Sg.wlk q c 0 (d.getD c 0) (Sg.sec seed q c)) (hdk : ∀ c, d.getD c 0 ≤ 15) (hq : q < 9223372036854775808) (c : Nat) (hc : c < 67) (W' : World) : Calls Tryz.prog 97 #[.string ⟨(Sg.sec seed q c).toArray⟩, .int .i64 (q : Int), .int .i64 (c : Int), .int .i64 0, .int .i64 ((d.getD c 0 : Nat) : Int)] W' fun e w' => e = .returned (.string ⟨(f c).toArray⟩) ∧ Below W'.heap.size W' w' := by
 have h := hdk c
 have := walk_spec (Sg.sec seed q c) q c 0 (d.getD c 0) W' (by rw [Sg.sec_len]; decide) hq (by omega) (by omega)
 rw [show (((0 : Nat)) : Int) = 0 from rfl, Int.zero_add] at this
 subst hf
 exact this
set_option maxRecDepth 20000 in
set_option maxHeartbeats 4000000 in
theorem sign_spec (seed msg : Sg.Str) (h n : Int) (w : World) (hm : msg.length ≤ 1073741824) :
 Calls Tryz.prog 52 #[.agg #[.string ⟨seed.toArray⟩, .int .i64 h, .int .i64 n], .string ⟨msg.toArray⟩] w (SgP (signR seed h n (Sg.dgs msg)) w) := by
 obtain ⟨d, hd⟩ : ∃ d, Sg.dgs msg = d := ⟨_, rfl⟩
 have hdl := Sg.dgs_len msg
 obtain ⟨W0, hW0⟩ : ∃ W0, w.alloc (.cells #[.string ⟨seed.toArray⟩, .int .i64 h, .int .i64 n] 23) = W0 := ⟨_, rfl⟩
 have hs0 : W0.heap.size = w.heap.size + 1 := by rw [← hW0]; simp
 obtain ⟨W1, hW1⟩ : ∃ W1, W0.alloc (.cells #[.int .i64 0, .slice none 0 0, .slice none 0 0] 29) = W1 := ⟨_, rfl⟩
 have hs1 : W1.heap.size = w.heap.size + 1 + 1 := by rw [← hW1]; simp [hs0]
 obtain ⟨W, hW⟩ : ∃ W, W1.alloc (.cells #[.string ⟨#[]⟩, .int .i64 0, .int .i64 0] 23) = W := ⟨_, rfl⟩
 have h3 : St w.heap.size w W [cellsR (w.heap.size + 1 + 1) 23 #[.string ⟨#[]⟩, .int .i64 0, .int .i64 0], cellsR (w.heap.size + 1) 29 #[.int .i64 0, .slice none 0 0, .slice none 0 0], cellsR w.heap.size 23 #[.string ⟨seed.toArray⟩, .int .i64 h, .int .i64 n]] := by
  have := (((St.nil w).alloc 23 #[.string ⟨seed.toArray⟩, .int .i64 h, .int .i64 n]).alloc 29 #[.int .i64 0, .slice none 0 0, .slice none 0 0]).alloc 23 #[.string ⟨#[]⟩, .int .i64 0, .int .i64 0]
  rw [hW0, hW1, hW, hs0, hs1] at this
  exact this
 have kt := valid_key seed h n W
 refine (callsIn_wide (n := 5)).1 ?_
 refine callsIn_of_wp_marks Tryz.func52 rfl trivial ?_ rfl
 simp only [Tryz.ntmps52, List.size_toArray, List.length_cons, List.length_nil, Nat.reduceAdd, Nat.reduceSub, Array.replicate_succ, Array.replicate_zero, List.push_toArray, List.append_toArray, List.nil_append, List.cons_append]
 rw [hd]
 unfold signR
 have HB := Lib.hid (And.intro hd hdl)
 have c0 := h3.tail.tail.blk.cell 0
 have c1 := h3.tail.tail.blk.cell 1
 have c2 := h3.tail.tail.blk.cell 2
 cases hv : validB seed h n with
 | false =>
   rw [hv] at kt
   rw [if_neg (by simp)]
   clear hd hdl
   gi_wp2_with (
    with_reducible refine And.intro ?_ ?_
    exact trivial
    gi_at_call 95
    refine (callsIn_wide.2 kt).mono ?_
    rintro e w1 ⟨rfl, b1⟩
    have h4 := h3.under b1
    have d0 : w1.cell? ⟨w.heap.size + 1, 0, none⟩ = some (.int .i64 0) := h4.tail.blk.cell 0
    have d1 : w1.cell? ⟨w.heap.size + 1, 1, none⟩ = some (.slice none 0 0) := h4.tail.blk.cell 1
    have d2 : w1.cell? ⟨w.heap.size + 1, 2, none⟩ = some (.slice none 0 0) := h4.tail.blk.cell 2
    have e0 := h4.tail.blk.frozen 0
    have e1 := h4.tail.blk.frozen 1
    have e2 := h4.tail.blk.frozen 2
    have g0 : w1.cell? ⟨w.heap.size + 1 + 1, 0, none⟩ = some (.string ⟨#[]⟩) := h4.blk.cell 0
    have g1 : w1.cell? ⟨w.heap.size + 1 + 1, 1, none⟩ = some (.int .i64 0) := h4.blk.cell 1
    have g2 : w1.cell? ⟨w.heap.size + 1 + 1, 2, none⟩ = some (.int .i64 0) := h4.blk.cell 2
    have f0 := h4.blk.frozen 0
    have f1 := h4.blk.frozen 1
    have f2 := h4.blk.frozen 2
    have H4 := Lib.hid h4
    clear h4 c0 c1 c2 kt h3 b1)
   obtain ⟨k1, k2, k3⟩ := sg_stores H4.out rfl
   refine ⟨_, results_cct rfl _ _ _ _ _ _ _ _ _ _ _ _ rfl k1 Tryz.underlying29 rfl size_sig rfl k2 Tryz.underlying23 rfl size_key, ?_⟩
   exact sgP_bad 1 k3.tail
 | true =>
   rw [hv] at kt
   rw [if_pos rfl]
   have hv' := hv
   unfold validB at hv'
   simp only [Bool.and_eq_true, decide_eq_true_eq] at hv'
   obtain ⟨ht, hn0, hn1⟩ := hv'
   obtain ⟨hsl, m, rfl, hm6⟩ := treeB_parts ht
   rw [Int.toNat_natCast] at hn1 ⊢
   obtain ⟨P, hP⟩ : ∃ P, 2 ^ m = P := ⟨_, rfl⟩
   obtain ⟨h5, h6⟩ := shl_facts m P hm6 hP
   have hP6 := pow6 hm6
   rw [hP] at hn1 hP6 ⊢
   obtain ⟨q, rfl⟩ : ∃ q : Nat, n = (q : Int) := ⟨n.toNat, by omega⟩
   rw [Int.toNat_natCast]
   clear hv ht hn0
   by_cases hqP : (q : Int) = (P : Int)
   ·rw [if_pos hqP]
    obtain rfl : q = P := by omega
    clear hqP
    gi_wp2_with (
     with_reducible refine And.intro ?_ ?_
     exact trivial
     gi_at_call 95
     refine (callsIn_wide.2 kt).mono ?_
     rintro e w1 ⟨rfl, b1⟩
     have h4 := h3.under b1
     have l0 : w1.drew.cell? ⟨w.heap.size, 0, none⟩ = some (.string ⟨seed.toArray⟩) := h4.drew.tail.tail.blk.cell 0
     have l1 : w1.drew.cell? ⟨w.heap.size, 1, none⟩ = some (.int .i64 (m : Int)) := h4.drew.tail.tail.blk.cell 1
     have l2 : w1.drew.cell? ⟨w.heap.size, 2, none⟩ = some (.int .i64 (q : Int)) := h4.drew.tail.tail.blk.cell 2
     have H4 := Lib.hid h4
     clear h4 c0 c1 c2 kt h3 b1)
    refine wpIn_wide.2 ?_
    refine wp_region_noPanic ?_
    refine wp_region_held_drew (S := (fun w' => w'.cell? ⟨w.heap.size, 1, none⟩ = some (.int .i64 (m : Int)) ∧ w'.cell? ⟨w.heap.size, 2, none⟩ = some (.int .i64 (q : Int)))) (by kernel_rfl) ?_ (fun hH0 => ?_)
    ·exact ⟨l1, l2⟩
    refine tk 0 17 hH0 ?_
    refine tk 1 18 hH0 ?_
    refine tk 2 19 hH0 ?_
    refine tk 3 20 hH0 ?_
    refine tk 4 21 hH0 ?_
    refine tk 5 22 hH0 ?_
    refine tk 6 16 hH0 ?_
    refine dn ?_ _
    all_goals (refine NoPanic.normal ?_)
    have d0 : w1.cell? ⟨w.heap.size + 1, 0, none⟩ = some (.int .i64 0) := H4.out.tail.blk.cell 0
    have d1 : w1.cell? ⟨w.heap.size + 1, 1, none⟩ = some (.slice none 0 0) := H4.out.tail.blk.cell 1
    have d2 : w1.cell? ⟨w.heap.size + 1, 2, none⟩ = some (.slice none 0 0) := H4.out.tail.blk.cell 2
    have e0 := H4.out.tail.blk.frozen 0
    have e1 := H4.out.tail.blk.frozen 1
    have e2 := H4.out.tail.blk.frozen 2
    have g0 : w1.cell? ⟨w.heap.size + 1 + 1, 0, none⟩ = some (.string ⟨#[]⟩) := H4.out.blk.cell 0
    have g1 : w1.cell? ⟨w.heap.size + 1 + 1, 1, none⟩ = some (.int .i64 0) := H4.out.blk.cell 1
    have g2 : w1.cell? ⟨w.heap.size + 1 + 1, 2, none⟩ = some (.int .i64 0) := H4.out.blk.cell 2
    have f0 := H4.out.blk.frozen 0
    have f1 := H4.out.blk.frozen 1
    have f2 := H4.out.blk.frozen 2
    gi_wp2
    obtain ⟨k1, k2, k3⟩ := sg_storesD (u0 := .int .i64 0) (u1 := .slice none 0 0) (u2 := .slice none 0 0) (v0 := .string ⟨#[]⟩) (v1 := .int .i64 0) (v2 := .int .i64 0) H4.out rfl
    refine ⟨_, results_cct rfl _ _ _ _ _ _ _ _ _ _ _ _ rfl k1 Tryz.underlying29 rfl size_sig rfl k2 Tryz.underlying23 rfl size_key, ?_⟩
    exact sgP_bad 22 k3.tail
   ·rw [if_neg hqP]
    have hlt : q < P := by omega
    have hq64 : q < 9223372036854775808 := by omega
    have hc64 : ∀ c, c < 67 → c < 9223372036854775808 := fun c h => by omega
    have hs64 : seed.length ≤ 1073741824 := by omega
    have hf64 : ∀ y, y ≤ 15 → 0 + y ≤ 1000 := fun y h => by omega
    have hl64 : ∀ c, (Sg.sec seed q c).length ≤ 1073741824 := fun c => by rw [Sg.sec_len]; decide
    have hqP' : ¬ q = P := by omega
    have HQ := Lib.hid (wraps_succ q (by omega))
    gi_wp2_with (
     with_reducible refine And.intro ?_ ?_
     exact trivial
     gi_at_call 95
     refine (callsIn_wide.2 kt).mono ?_
     rintro e w1 ⟨rfl, b1⟩
     have h4 := h3.under b1
     have l0 : w1.drew.cell? ⟨w.heap.size, 0, none⟩ = some (.string ⟨seed.toArray⟩) := h4.drew.tail.tail.blk.cell 0
     have l1 : w1.drew.cell? ⟨w.heap.size, 1, none⟩ = some (.int .i64 (m : Int)) := h4.drew.tail.tail.blk.cell 1
     have l2 : w1.drew.cell? ⟨w.heap.size, 2, none⟩ = some (.int .i64 (q : Int)) := h4.drew.tail.tail.blk.cell 2
     have H4 := Lib.hid h4
     clear h4 c0 c1 c2 kt h3 b1)
    refine wpIn_wide.2 ?_
    refine wp_region_noPanic ?_
    refine wp_region_held_drew (S := (fun w' => w'.cell? ⟨w.heap.size, 1, none⟩ = some (.int .i64 (m : Int)) ∧ w'.cell? ⟨w.heap.size, 2, none⟩ = some (.int .i64 (q : Int)))) (by kernel_rfl) ?_ (fun hH0 => ?_)
    ·exact ⟨l1, l2⟩
    refine tk 0 17 hH0 ?_
    refine tk 1 18 hH0 ?_
    refine tk 2 19 hH0 ?_
    refine tk 3 20 hH0 ?_
    refine tk 4 21 hH0 ?_
    refine tk 5 22 hH0 ?_
    refine tk 6 16 hH0 ?_
    refine dn ?_ _
    all_goals (refine NoPanic.normal ?_)
    gi_wp2_with (
     with_reducible refine And.intro ?_ ?_
     exact trivial
     gi_at_call 96
     refine (callsIn_wide.2 (maker_spec msg _)).mono ?_
     rintro e w2 ⟨rfl, rfl⟩)
    obtain ⟨f, hf⟩ : ∃ f : Nat → Sg.Str, f = fun c => Sg.wlk q c 0 (d.getD c 0) (Sg.sec seed q c) := ⟨_, rfl⟩
    have hch : Sg.chn seed q d 67 = (dfin 67).map fun c => f c.val := by
     rw [dfin_map f 67 (by decide), hf]
     rfl
    have hdk : ∀ c, d.getD c 0 ≤ 15 := Sg.getD_le (d := d) (fun x hx => Sg.dgs_le msg x (by rw [hd]; exact hx))
    have kS := sg_secret seed q hs64 hq64
    have kW := sg_walk seed q d f hf hdk hq64
    have HD := Lib.hid hch
    clear hf hch
    have t0 : St w.heap.size w ((w1.alloc (.cells #[.int .i64 (q : Int), .slice none 0 0, .slice none 0 0] 29)).alloc (.cells #[.string ⟨msg.toArray⟩] 9)).drew (ownR 9 1 (.slice none 0 0) 0 (strs []) :: cellsR w1.heap.size 29 #[.int .i64 (q : Int), .slice none 0 0, .slice none 0 0] :: [cellsR (w.heap.size + 1 + 1) 23 #[.string ⟨#[]⟩, .int .i64 0, .int .i64 0], cellsR (w.heap.size + 1) 29 #[.int .i64 0, .slice none 0 0, .slice none 0 0], cellsR w.heap.size 23 #[.string ⟨seed.toArray⟩, .int .i64 (m : Int), .int .i64 (q : Int)]]) :=
     ((H4.out.alloc 29 #[.int .i64 (q : Int), .slice none 0 0, .slice none 0 0]).alloc0 _).drew.new_own (Below.refl _ _) (World.ownsRow_nil _ _ _ _)
    have hmc : ((w1.alloc (.cells #[.int .i64 (q : Int), .slice none 0 0, .slice none 0 0] 29)).alloc (.cells #[.string ⟨msg.toArray⟩] 9)).drew.cell? ⟨w1.heap.size + 1, 0, none⟩ = some (.string ⟨msg.toArray⟩) := by
     have := (Blk.new (w1.alloc (.cells #[.int .i64 (q : Int), .slice none 0 0, .slice none 0 0] 29)) 9 #[.string ⟨msg.toArray⟩]).cell 0
     rw [World.size_alloc] at this
     exact this
    obtain ⟨o, ho⟩ : ∃ o, w1.heap.size = o := ⟨_, rfl⟩
    rw [ho] at t0 hmc ⊢
    refine range_digits hd hmc hm (fun pre (v : Value) => ownR 9 1 v pre.length (strs (pre.map fun c => f c.val)) :: cellsR o 29 #[.int .i64 (q : Int), v, .slice none 0 0] :: [cellsR (w.heap.size + 1 + 1) 23 #[.string ⟨#[]⟩, .int .i64 0, .int .i64 0], cellsR (w.heap.size + 1) 29 #[.int .i64 0, .slice none 0 0, .slice none 0 0], cellsR w.heap.size 23 #[.string ⟨seed.toArray⟩, .int .i64 (m : Int), .int .i64 (q : Int)]]) (fun pre v R hR => by
     simp only [List.mem_cons, List.not_mem_nil, or_false] at hR
     rcases hR with rfl | rfl | rfl | rfl | rfl
     ·exact celled_own (by decide)
     all_goals exact celled_cells (by decide)) (s := 8) (t := 9) (.slice none 0 0) rfl t0 ?assign ?body ?done
    case assign =>
     intro l c W1 K hK
     simp only [List.setIfInBounds_toArray, List.set_cons_zero, List.set_cons_succ] at hK ⊢
     gi_wp2
     exact hK
    case body =>
     rintro l pre ⟨c, hc⟩ v W1 hlen h
     simp only [List.setIfInBounds_toArray, List.set_cons_zero, List.set_cons_succ]
     have kSc := kS c hc
     have kWc := kW c hc
     have hz : strs ((pre ++ [(⟨c, hc⟩ : Fin 67)]).map fun c => f c.val) = strs (pre.map fun c => f c.val) ++ [.string ⟨(f c).toArray⟩] := by rw [List.map_append, strs_append]; rfl
     have hzl : (pre ++ [(⟨c, hc⟩ : Fin 67)]).length = pre.length + 1 := by simp
     generalize d.getD c 0 = y at kWc ⊢
     generalize Sg.sec seed q c = x at kSc kWc
     generalize f c = z at kWc hz
     obtain ⟨Ls, hLs⟩ : ∃ Ls, strs (pre.map fun c => f c.val) = Ls := ⟨_, rfl⟩
     obtain ⟨k, hk⟩ : ∃ k, pre.length = k := ⟨_, rfl⟩
     rw [hLs, hk] at h
     rw [hLs] at hz
     rw [hk] at hzl hlen
     have HZ := Lib.hid (And.intro hz hzl)
     have hlen' := hlen
     clear hz hzl hLs hk kS kW t0 hmc
     have hW : ∀ W' v' R1 R2, St w.heap.size w W' (R1 :: R2 :: cellsR o 29 #[.int .i64 (q : Int), v', .slice none 0 0] :: [cellsR (w.heap.size + 1 + 1) 23 #[.string ⟨#[]⟩, .int .i64 0, .int .i64 0], cellsR (w.heap.size + 1) 29 #[.int .i64 0, .slice none 0 0, .slice none 0 0], cellsR w.heap.size 23 #[.string ⟨seed.toArray⟩, .int .i64 (m : Int), .int .i64 (q : Int)]]) → W'.cell? ⟨w.heap.size, 0, none⟩ = some (.string ⟨seed.toArray⟩) ∧ W'.cell? ⟨w.heap.size, 2, none⟩ = some (.int .i64 (q : Int)) := fun W' v' R1 R2 hh => ⟨hh.tail.tail.tail.tail.tail.blk.cell 0, hh.tail.tail.tail.tail.tail.blk.cell 2⟩
     have hV : ∀ W' v' R1 R2 Rs, St w.heap.size w W' (R1 :: R2 :: cellsR o 29 #[.int .i64 (q : Int), v', .slice none 0 0] :: Rs) → W'.cell? ⟨o, 1, none⟩ = some v' ∧ W'.frozen? ⟨o, 1, none⟩ = false := fun W' v' R1 R2 Rs hh => ⟨hh.tail.tail.blk.cell 1, hh.tail.tail.blk.frozen 1⟩
     have HW := Lib.hid hW
     have HV := Lib.hid hV
     have y0 := h.drew
     obtain ⟨n0, z0⟩ := hV _ _ _ _ _ y0
     have q2 : k + 1 ≤ maxLen := by unfold maxLen; omega
     have q1 : (k + 1) * 16 ≤ 140737488355328 := by omega
     clear hW hV h
     gi_wp2
     refine wp_round_held (S := (fun w' => w'.cell? ⟨w.heap.size, 0, none⟩ = some (.string ⟨seed.toArray⟩) ∧ w'.cell? ⟨w.heap.size, 2, none⟩ = some (.int .i64 (q : Int)))) (by kernel_rfl) (by kernel_rfl) ?_ (fun hH0 => ?_)
     ·exact HW.out _ _ _ _ y0
     refine tk 0 32 hH0 ?_
     refine tk 2 34 hH0 ?_
     refine tk 3 35 hH0 ?_
     refine tk 4 36 hH0 ?_
     refine tk 5 37 hH0 ?_
     refine tk 6 38 hH0 ?_
     refine tk 8 40 hH0 ?_
     refine tk 9 41 hH0 ?_
     refine tk 10 42 hH0 ?_
     refine tk 11 43 hH0 ?_
     refine rdy [1, 7] ?_
     refine ad 33 (fun K hK => ?_) ?_
     go_simp
     refine hK.out _ _ ?_ (fun hH1 => ?_)
     ·exact HW.out _ _ _ _ y0
     clear hK K hH0
     try simp only [pu]
     refine rdy [7] ?_
     refine an 39 fun K hK => ?_
     go_simp; (
      with_reducible refine (kSc _).mono ?_
      rintro e v1 ⟨rfl, b1⟩
      have y1 := y0.under b1
      obtain ⟨n1, z1⟩ := HV.out _ _ _ _ _ y1); go_wp2_with fail
     refine hK.out _ _ ?_ (fun hH2 => ?_)
     ·exact HW.out _ _ _ _ y1
     clear hK K hH1
     try simp only [pu]
     refine rdy [12] ?_
     refine an 44 fun K hK => ?_
     go_simp; (
      with_reducible refine (kWc _).mono ?_
      rintro e v2 ⟨rfl, b2⟩
      have y2 := y1.under b2
      obtain ⟨n2, z2⟩ := HV.out _ _ _ _ _ y2
      obtain ⟨n3, z3⟩ := HV.out _ _ _ _ _ (y2.alloc0 (.cells #[.string ⟨z.toArray⟩] 9))
      have xC := (Blk.new v2 9 #[.string ⟨z.toArray⟩]).cell 0); go_wp2_with fail
     refine hK.out _ _ ?_ (fun hH3 => ?_)
     ·exact HW.out _ _ _ _ y2
     clear hK K hH2
     try simp only [pu]
     refine rdy [13] ?_
     refine an 45 fun K hK => ?_
     go_simp
     refine hK.out _ _ ?_ (fun hH4 => ?_)
     ·exact HW.out _ _ _ _ (y2.alloc0 _)
     clear hK K hH3
     try simp only [pu]
     refine rdy [14] ?_
     refine an 46 fun K hK => ?_
     (
      refine stepG 27 (u := .string ⟨z.toArray⟩) v2.heap.size (y2.alloc0 (.cells #[.string ⟨z.toArray⟩] 9)).swap xC Tryz.underlying27 info_str rfl _ _ (by rfl) (by rfl) (by rfl) (by rfl) rfl q2 q1 ?_
      intro gg cap w5 h8
      have y4 := h8.swap
      obtain ⟨n4, z4⟩ := HV.out _ _ _ _ _ y4
      have y5 := fun u : Value => St.set_ (St.front 2 (by simp) y4) 1 u
      have p5 : ∀ u, (w5.setCell ⟨o, 1, none⟩ u).cell? ⟨w.heap.size, 0, none⟩ = some (.string ⟨seed.toArray⟩) ∧ (w5.setCell ⟨o, 1, none⟩ u).cell? ⟨w.heap.size, 2, none⟩ = some (.int .i64 (q : Int)) := fun u => ⟨(y5 u).tail.tail.tail.tail.tail.blk.cell 0, (y5 u).tail.tail.tail.tail.tail.blk.cell 2⟩)
     refine hK.out _ _ ?_ (fun hH5 => ?_)
     ·exact HW.out _ _ _ _ y4
     clear hK K hH4
     try simp only [pu]
     refine tk 15 47 hH5 ?_
     refine rdy [16] ?_
     refine az fun K hK => ?_
     go_simp
     refine hK.out _ _ ?_ (fun hH6 => ?_)
     ·exact p5 _
     clear hK K hH5
     try simp only [pu]
     refine dn ?_ _
     rotate_left 1
     refine an 39 fun K hK => ?_
     go_simp; (
      with_reducible refine (kSc _).mono ?_
      rintro e v1 ⟨rfl, b1⟩
      have y1 := y0.under b1
      obtain ⟨n1, z1⟩ := HV.out _ _ _ _ _ y1); go_wp2_with fail
     refine hK.out _ _ ?_ (fun hH7 => ?_)
     ·exact HW.out _ _ _ _ y1
     clear hK K hH0
     try simp only [pu]
     refine rdy [1, 12] ?_
     refine ad 33 (fun K hK => ?_) ?_
     go_simp
     refine hK.out _ _ ?_ (fun hH8 => ?_)
     ·exact HW.out _ _ _ _ y1
     clear hK K hH7
     try simp only [pu]
     refine rdy [12] ?_
     refine an 44 fun K hK => ?_
     go_simp; (
      with_reducible refine (kWc _).mono ?_
      rintro e v2 ⟨rfl, b2⟩
      have y2 := y1.under b2
      obtain ⟨n2, z2⟩ := HV.out _ _ _ _ _ y2
      obtain ⟨n3, z3⟩ := HV.out _ _ _ _ _ (y2.alloc0 (.cells #[.string ⟨z.toArray⟩] 9))
      have xC := (Blk.new v2 9 #[.string ⟨z.toArray⟩]).cell 0); go_wp2_with fail
     refine hK.out _ _ ?_ (fun hH9 => ?_)
     ·exact HW.out _ _ _ _ y2
     clear hK K hH8
     try simp only [pu]
     refine rdy [13] ?_
     refine an 45 fun K hK => ?_
     go_simp
     refine hK.out _ _ ?_ (fun hH10 => ?_)
     ·exact HW.out _ _ _ _ (y2.alloc0 _)
     clear hK K hH9
     try simp only [pu]
     refine rdy [14] ?_
     refine an 46 fun K hK => ?_
     (
      refine stepG 27 (u := .string ⟨z.toArray⟩) v2.heap.size (y2.alloc0 (.cells #[.string ⟨z.toArray⟩] 9)).swap xC Tryz.underlying27 info_str rfl _ _ (by rfl) (by rfl) (by rfl) (by rfl) rfl q2 q1 ?_
      intro gg cap w5 h8
      have y4 := h8.swap
      obtain ⟨n4, z4⟩ := HV.out _ _ _ _ _ y4
      have y5 := fun u : Value => St.set_ (St.front 2 (by simp) y4) 1 u
      have p5 : ∀ u, (w5.setCell ⟨o, 1, none⟩ u).cell? ⟨w.heap.size, 0, none⟩ = some (.string ⟨seed.toArray⟩) ∧ (w5.setCell ⟨o, 1, none⟩ u).cell? ⟨w.heap.size, 2, none⟩ = some (.int .i64 (q : Int)) := fun u => ⟨(y5 u).tail.tail.tail.tail.tail.blk.cell 0, (y5 u).tail.tail.tail.tail.tail.blk.cell 2⟩)
     refine hK.out _ _ ?_ (fun hH11 => ?_)
     ·exact HW.out _ _ _ _ y4
     clear hK K hH10
     try simp only [pu]
     refine tk 15 47 hH11 ?_
     refine rdy [16] ?_
     refine az fun K hK => ?_
     go_simp
     refine hK.out _ _ ?_ (fun hH12 => ?_)
     ·exact p5 _
     clear hK K hH11
     try simp only [pu]
     refine dn ?_ _
     rotate_left 1
     refine an 44 fun K hK => ?_
     go_simp; (
      with_reducible refine (kWc _).mono ?_
      rintro e v2 ⟨rfl, b2⟩
      have y2 := y1.under b2
      obtain ⟨n2, z2⟩ := HV.out _ _ _ _ _ y2
      obtain ⟨n3, z3⟩ := HV.out _ _ _ _ _ (y2.alloc0 (.cells #[.string ⟨z.toArray⟩] 9))
      have xC := (Blk.new v2 9 #[.string ⟨z.toArray⟩]).cell 0); go_wp2_with fail
     refine hK.out _ _ ?_ (fun hH13 => ?_)
     ·exact HW.out _ _ _ _ y2
     clear hK K hH7
     try simp only [pu]
     refine rdy [1, 13] ?_
     refine ad 33 (fun K hK => ?_) ?_
     go_simp
     refine hK.out _ _ ?_ (fun hH14 => ?_)
     ·exact HW.out _ _ _ _ y2
     clear hK K hH13
     try simp only [pu]
     refine rdy [13] ?_
     refine an 45 fun K hK => ?_
     go_simp
     refine hK.out _ _ ?_ (fun hH15 => ?_)
     ·exact HW.out _ _ _ _ (y2.alloc0 _)
     clear hK K hH14
     try simp only [pu]
     refine rdy [14] ?_
     refine an 46 fun K hK => ?_
     (
      refine stepG 27 (u := .string ⟨z.toArray⟩) v2.heap.size (y2.alloc0 (.cells #[.string ⟨z.toArray⟩] 9)).swap xC Tryz.underlying27 info_str rfl _ _ (by rfl) (by rfl) (by rfl) (by rfl) rfl q2 q1 ?_
      intro gg cap w5 h8
      have y4 := h8.swap
      obtain ⟨n4, z4⟩ := HV.out _ _ _ _ _ y4
      have y5 := fun u : Value => St.set_ (St.front 2 (by simp) y4) 1 u
      have p5 : ∀ u, (w5.setCell ⟨o, 1, none⟩ u).cell? ⟨w.heap.size, 0, none⟩ = some (.string ⟨seed.toArray⟩) ∧ (w5.setCell ⟨o, 1, none⟩ u).cell? ⟨w.heap.size, 2, none⟩ = some (.int .i64 (q : Int)) := fun u => ⟨(y5 u).tail.tail.tail.tail.tail.blk.cell 0, (y5 u).tail.tail.tail.tail.tail.blk.cell 2⟩)
     refine hK.out _ _ ?_ (fun hH16 => ?_)
     ·exact HW.out _ _ _ _ y4
     clear hK K hH15
     try simp only [pu]
     refine tk 15 47 hH16 ?_
     refine rdy [16] ?_
     refine az fun K hK => ?_
     go_simp
     refine hK.out _ _ ?_ (fun hH17 => ?_)
     ·exact p5 _
     clear hK K hH16
     try simp only [pu]
     refine dn ?_ _
     rotate_left 1
     refine an 45 fun K hK => ?_
     go_simp
     refine hK.out _ _ ?_ (fun hH18 => ?_)
     ·exact HW.out _ _ _ _ (y2.alloc0 _)
     clear hK K hH13
     try simp only [pu]
     refine rdy [1] ?_
     refine an 33 fun K hK => ?_
     go_simp
     refine hK.out _ _ ?_ (fun hH19 => ?_)
     ·exact HW.out _ _ _ _ (y2.alloc0 _)
     clear hK K hH18
     try simp only [pu]
     refine rdy [14] ?_
     refine an 46 fun K hK => ?_
     (
      refine stepG 27 (u := .string ⟨z.toArray⟩) v2.heap.size (y2.alloc0 (.cells #[.string ⟨z.toArray⟩] 9)).swap xC Tryz.underlying27 info_str rfl _ _ (by rfl) (by rfl) (by rfl) (by rfl) rfl q2 q1 ?_
      intro gg cap w5 h8
      have y4 := h8.swap
      obtain ⟨n4, z4⟩ := HV.out _ _ _ _ _ y4
      have y5 := fun u : Value => St.set_ (St.front 2 (by simp) y4) 1 u
      have p5 : ∀ u, (w5.setCell ⟨o, 1, none⟩ u).cell? ⟨w.heap.size, 0, none⟩ = some (.string ⟨seed.toArray⟩) ∧ (w5.setCell ⟨o, 1, none⟩ u).cell? ⟨w.heap.size, 2, none⟩ = some (.int .i64 (q : Int)) := fun u => ⟨(y5 u).tail.tail.tail.tail.tail.blk.cell 0, (y5 u).tail.tail.tail.tail.tail.blk.cell 2⟩)
     refine hK.out _ _ ?_ (fun hH20 => ?_)
     ·exact HW.out _ _ _ _ y4
     clear hK K hH19
     try simp only [pu]
     refine tk 15 47 hH20 ?_
     refine rdy [16] ?_
     refine az fun K hK => ?_
     go_simp
     refine hK.out _ _ ?_ (fun hH21 => ?_)
     ·exact p5 _
     clear hK K hH20
     try simp only [pu]
     refine dn ?_ _
     all_goals (refine OnlyN.normal ?_)
     all_goals
      refine ⟨.slice (some ⟨gg, 0, none⟩) (k + 1) cap, ?_⟩
      have y9 := y5 (.slice (some ⟨gg, 0, none⟩) (k + 1) cap)
      rw [HZ.out.1, HZ.out.2]
      exact (y9.pk [1, 2, 0, 3, 4, 5])
    case done =>
     rintro D v W2 hD h hK
     obtain ⟨va, vc, rfl, _⟩ := own_form h.own
     have hDl : w.heap.size ≤ D := Nat.le_trans t0.size hD
     rw [dfin_len 67 (by decide), ← HD.out] at h
     have hcel : ∀ R ∈ (ownR 9 1 (.slice va 67 vc) 67 (strs (Sg.chn seed q d 67)) :: cellsR o 29 #[.int .i64 (q : Int), .slice va 67 vc, .slice none 0 0] :: [cellsR (w.heap.size + 1 + 1) 23 #[.string ⟨#[]⟩, .int .i64 0, .int .i64 0], cellsR (w.heap.size + 1) 29 #[.int .i64 0, .slice none 0 0, .slice none 0 0], cellsR w.heap.size 23 #[.string ⟨seed.toArray⟩, .int .i64 (m : Int), .int .i64 (q : Int)]]), Celled R := fun R hR => by
      simp only [List.mem_cons, List.not_mem_nil, or_false] at hR
      rcases hR with rfl | rfl | rfl | rfl | rfl
      ·exact celled_own (by decide)
      all_goals exact celled_cells (by decide)
     have y0 := (h.keep hcel).drew
     have hC : ∀ W' cs, Blk W' w.heap.size 23 #[.string ⟨seed.toArray⟩, .int .i64 (m : Int), cs] → W'.cell? ⟨w.heap.size, 0, none⟩ = some (.string ⟨seed.toArray⟩) ∧ W'.cell? ⟨w.heap.size, 1, none⟩ = some (.int .i64 (m : Int)) ∧ W'.cell? ⟨w.heap.size, 2, none⟩ = some cs := fun W' cs hh => ⟨hh.cell 0, hh.cell 1, hh.cell 2⟩
     have HC := Lib.hid hC
     obtain ⟨l0, l1, l2⟩ := hC _ _ y0.tail.tail.tail.tail.tail.blk
     have hll := Sg.lvs_len seed P
     have kL : ∀ W', Calls Tryz.prog 100 #[.agg #[.string ⟨seed.toArray⟩, .int .i64 (m : Int), .int .i64 (q : Int)]] W' (KlP (Sg.lvs seed P) P W') := fun W' => by
      have := kleaves_spec seed m (q : Int) W' hs64 hm6
      unfold SlR at this
      rw [hP, hll] at this
      exact this
     have hincl : mInc (Sg.lvs seed P) (q : Int) = (Mk.incl (Sg.lvs seed P) q, 0) := mInc_ok (Sg.lvs_dig _ _) (by rw [hll]; exact Nat.le_trans hP6 (by decide)) q (by rw [hll]; exact hlt)
     have kI : ∀ W' A c, Rd W' A (strs (Sg.lvs seed P)) → P ≤ c → c ≤ maxLen → Calls Tryz.prog 99 #[.slice A P c, .int .i64 (q : Int)] W' (PrP (Mk.incl (Sg.lvs seed P) q, 0) W') := fun W' A c h1 h2 h3 => by
      have := inc_mk A (Sg.lvs seed P) c (q : Int) W' h1 (by rw [hll]; exact Nat.le_trans hP6 (by decide)) (by rw [hll]; exact h2) h3
      rw [hincl, hll] at this
      exact this
     have HK := Lib.hid (And.intro hK (And.intro h hcel))
     obtain ⟨I, hI⟩ : ∃ I, Mk.incl (Sg.lvs seed P) q = I := ⟨_, rfl⟩
     rw [hI] at kI
     have HI := Lib.hid hI
     generalize Sg.lvs seed P = L at kL kI
     clear hI hK hC hincl hll hcel h kS kW t0 hmc
     have y5n : W2.drew.cell? ⟨o, 2, none⟩ = some (.slice none 0 0) := y0.tail.tail.blk.cell 2
     have z5n := y0.tail.tail.blk.frozen 2
     gi_wp2
     refine wpIn_wide.2 ?_
     refine wp_region_noPanic ?_
     refine wp_region_held_drew (S := (fun w' => w'.cell? ⟨w.heap.size, 0, none⟩ = some (.string ⟨seed.toArray⟩) ∧ w'.cell? ⟨w.heap.size, 1, none⟩ = some (.int .i64 (m : Int)) ∧ w'.cell? ⟨w.heap.size, 2, none⟩ = some (.int .i64 (q : Int)))) (by kernel_rfl) ?_ (fun hH0 => ?_)
     ·exact HC.out _ _ y0.tail.tail.tail.tail.tail.blk
     refine tk 0 49 hH0 ?_
     refine tk 2 51 hH0 ?_
     refine tk 3 52 hH0 ?_
     refine rdy [1] ?_
     refine an 50 fun K hK => ?_
     go_simp; (
      with_reducible refine (kL _).mono ?_
      rintro e v1 ⟨A1, a1, rfl, ha1, hm1, t1⟩
      have y1 := y0.join t1
      have rL := Rd.of_own t1.own); go_wp2_with fail
     refine hK.out _ _ ?_ (fun hH1 => ?_)
     ·exact HC.out _ _ y1.tail.tail.tail.tail.tail.tail.blk
     clear hK K hH0
     try simp only [pu]
     refine rdy [4] ?_
     refine an 53 fun K hK => ?_
     go_simp; (
      with_reducible refine (kI _ A1 a1 rL ha1 hm1).mono ?_
      rintro e v2 ⟨pv, rfl, t2⟩
      obtain ⟨pa, pc, rfl, _⟩ := own_form t2.own
      have y2 := y1.join t2
      have n2 : v2.cell? ⟨o, 2, none⟩ = some (.slice none 0 0) := y2.tail.tail.tail.tail.blk.cell 2
      have z2 := y2.tail.tail.tail.tail.blk.frozen 2
      have y5 := fun u : Value => St.set_ (St.front 4 (by simp) y2) 2 u
      have p5 : ∀ u, (v2.setCell ⟨o, 2, none⟩ u).cell? ⟨w.heap.size, 0, none⟩ = some (.string ⟨seed.toArray⟩) ∧ (v2.setCell ⟨o, 2, none⟩ u).cell? ⟨w.heap.size, 1, none⟩ = some (.int .i64 (m : Int)) ∧ (v2.setCell ⟨o, 2, none⟩ u).cell? ⟨w.heap.size, 2, none⟩ = some (.int .i64 (q : Int)) := fun u => HC.out _ _ (y5 u).tail.tail.tail.tail.tail.tail.tail.blk); go_wp2_with fail
     refine hK.out _ _ ?_ (fun hH2 => ?_)
     ·exact HC.out _ _ y2.tail.tail.tail.tail.tail.tail.tail.blk
     clear hK K hH1
     try simp only [pu]
     refine tk 5 48 hH2 ?_
     refine tk 6 54 hH2 ?_
     refine tk 7 55 hH2 ?_
     refine tk 8 56 hH2 ?_
     refine rdy [9] ?_
     refine az fun K hK => ?_
     go_simp
     refine hK.out _ _ ?_ (fun hH3 => ?_)
     ·exact p5 _
     clear hK K hH2
     try simp only [pu]
     refine dn ?_ _
     all_goals (refine NoPanic.normal ?_)
     have y6 : St w.heap.size w _ [cellsR w.heap.size 23 #[.string ⟨seed.toArray⟩, .int .i64 (m : Int), .int .i64 (q : Int)], cellsR o 29 #[.int .i64 (q : Int), .slice va 67 vc, .slice pa I.length pc], cellsR (w.heap.size + 1 + 1) 23 #[.string ⟨#[]⟩, .int .i64 0, .int .i64 0], cellsR (w.heap.size + 1) 29 #[.int .i64 0, .slice none 0 0, .slice none 0 0], ownR 9 1 (.slice va 67 vc) 67 (strs (Sg.chn seed q d 67)), ownR 9 1 (.slice pa I.length pc) I.length (strs I), keepR w.heap.size W2] := (y5 (.slice pa I.length pc)).pk [7, 0, 5, 6, 4, 1, 3]
     obtain ⟨W3, hW3⟩ : ∃ W3, v2.setCell ⟨o, 2, none⟩ (.slice pa I.length pc) = W3 := ⟨_, rfl⟩
     rw [hW3] at y6 ⊢
     obtain ⟨qw, qw'⟩ := HQ.out
     clear y5 p5 n2 z2 hH3 hW3 y5n z5n l0 l1 l2 kL kI rL y2 y1 y0 t1 t2
     have c2 : W3.cell? ⟨w.heap.size, 2, none⟩ = some (.int .i64 (q : Int)) := y6.blk.cell 2
     have f2 := y6.blk.frozen 2
     have y7 := y6.set_ 2 (.int .i64 ((q : Int) + 1))
     gi_wp2
     obtain ⟨W4, hW4⟩ : ∃ W4, W3.setCell ⟨w.heap.size, 2, none⟩ (.int .i64 ((q : Int) + 1)) = W4 := ⟨_, rfl⟩
     rw [hW4] at y7 ⊢
     clear y6 c2 f2 hW4 qw qw'
     have S2 : ∀ W', St w.heap.size w W' (cellsR w.heap.size 23 #[.string ⟨seed.toArray⟩, .int .i64 (m : Int), .int .i64 ((q : Int) + 1)] :: cellsR o 29 #[.int .i64 (q : Int), .slice va 67 vc, .slice pa I.length pc] :: []) → W'.cell? ⟨w.heap.size, 0, none⟩ = some (.string ⟨seed.toArray⟩) ∧ W'.cell? ⟨w.heap.size, 1, none⟩ = some (.int .i64 (m : Int)) ∧ W'.cell? ⟨w.heap.size, 2, none⟩ = some (.int .i64 ((q : Int) + 1)) ∧ W'.cell? ⟨o, 0, none⟩ = some (.int .i64 (q : Int)) ∧ W'.cell? ⟨o, 1, none⟩ = some (.slice va 67 vc) ∧ W'.cell? ⟨o, 2, none⟩ = some (.slice pa I.length pc) := fun W' hh => ⟨hh.blk.cell 0, hh.blk.cell 1, hh.blk.cell 2, hh.tail.blk.cell 0, hh.tail.blk.cell 1, hh.tail.blk.cell 2⟩
     have HS := Lib.hid S2
     clear S2
     have g0 : W4.cell? ⟨w.heap.size + 1 + 1, 0, none⟩ = some (.string ⟨#[]⟩) := y7.tail.tail.blk.cell 0
     have g1 : W4.cell? ⟨w.heap.size + 1 + 1, 1, none⟩ = some (.int .i64 0) := y7.tail.tail.blk.cell 1
     have g2 : W4.cell? ⟨w.heap.size + 1 + 1, 2, none⟩ = some (.int .i64 0) := y7.tail.tail.blk.cell 2
     have a0 := y7.tail.tail.blk.frozen 0
     have a1 := y7.tail.tail.blk.frozen 1
     have a2 := y7.tail.tail.blk.frozen 2
     have d0 : W4.cell? ⟨w.heap.size + 1, 0, none⟩ = some (.int .i64 0) := y7.tail.tail.tail.blk.cell 0
     have d1 : W4.cell? ⟨w.heap.size + 1, 1, none⟩ = some (.slice none 0 0) := y7.tail.tail.tail.blk.cell 1
     have d2 : W4.cell? ⟨w.heap.size + 1, 2, none⟩ = some (.slice none 0 0) := y7.tail.tail.tail.blk.cell 2
     have b0 := y7.tail.tail.tail.blk.frozen 0
     have b1 := y7.tail.tail.tail.blk.frozen 1
     have b2 := y7.tail.tail.tail.blk.frozen 2
     have yA := fun u0 u1 u2 : Value => ((((St.front 3 (by simp) y7).set_ 0 u0).set_ 1 u1).set_ 2 u2)
     have yC := fun u0 u1 u2 v0 v1 v2 : Value => ((((St.front 3 (by simp) (yA u0 u1 u2)).set_ 0 v0).set_ 1 v1).set_ 2 v2)
     have p0 := HS.out _ (y7.drew.pk [0, 1])
     have pA := fun u0 u1 u2 : Value => HS.out _ ((yA u0 u1 u2).drew.pk [1, 2])
     have pC := fun u0 u1 u2 v0 v1 v2 : Value => HS.out _ ((yC u0 u1 u2 v0 v1 v2).drew.pk [2, 3])
     have HY := Lib.hid yC
     clear yA yC
     refine wpIn_wide.2 ?_
     refine wp_region_noPanic ?_
     refine wp_region_held_drew (S := (fun w' => w'.cell? ⟨w.heap.size, 0, none⟩ = some (.string ⟨seed.toArray⟩) ∧ w'.cell? ⟨w.heap.size, 1, none⟩ = some (.int .i64 (m : Int)) ∧ w'.cell? ⟨w.heap.size, 2, none⟩ = some (.int .i64 ((q : Int) + 1)) ∧ w'.cell? ⟨o, 0, none⟩ = some (.int .i64 (q : Int)) ∧ w'.cell? ⟨o, 1, none⟩ = some (.slice va 67 vc) ∧ w'.cell? ⟨o, 2, none⟩ = some (.slice pa I.length pc))) (by kernel_rfl) ?_ (fun hH0 => ?_)
     ·with_reducible exact p0
     refine tk 0 61 hH0 ?_
     refine tk 1 62 hH0 ?_
     refine rdy [2] ?_
     refine az fun K hK => ?_
     go_simp
     refine hK.out _ _ ?_ (fun hH1 => ?_)
     ·with_reducible exact pA _ _ _
     clear hK K hH0
     try simp only [pu]
     refine rdy [3] ?_
     refine az fun K hK => ?_
     go_simp
     refine hK.out _ _ ?_ (fun hH2 => ?_)
     ·with_reducible exact pC _ _ _ _ _ _
     clear hK K hH1
     try simp only [pu]
     refine tk 4 6 hH2 ?_
     refine dn ?_ _
     all_goals (refine NoPanic.normal ?_)
     gi_wp2
     have y9 := (HY.out (.int .i64 (q : Int)) (.slice va 67 vc) (.slice pa I.length pc) (.string ⟨seed.toArray⟩) (.int .i64 (m : Int)) (.int .i64 ((q : Int) + 1))).drew
     obtain ⟨hK1, hK2, hcel⟩ := HK.out
     have hK' := (St.kept hK2.below (y9.pk [6])).1.same D _ hK1 rfl
     have yE := sg_end (D := D) (Rs := [cellsR (w.heap.size + 1 + 1) 23 #[.string ⟨seed.toArray⟩, .int .i64 (m : Int), .int .i64 ((q : Int) + 1)], cellsR (w.heap.size + 1) 29 #[.int .i64 (q : Int), .slice va 67 vc, .slice pa I.length pc], ownR 9 1 (.slice va 67 vc) 67 (strs (Sg.chn seed q d 67)), ownR 9 1 (.slice pa I.length pc) I.length (strs I)]) (y9.pk [0, 1, 4, 5]) (fun R hR => by
      simp only [List.mem_cons, List.not_mem_nil, or_false] at hR
      rcases hR with rfl | rfl | rfl | rfl
      ·exact celled_cells (by decide)
      ·exact celled_cells (by decide)
      all_goals exact celled_own (by decide)) hDl hK'
     refine ⟨by simp, .inl ⟨_, _, rfl, run_takeDeferred hK', ?_⟩⟩
     refine ⟨_, results_cct rfl _ _ _ _ _ _ _ _ _ _ _ _ rfl yE.tail.blk Tryz.underlying29 rfl size_sig rfl yE.blk Tryz.underlying23 rfl size_key, ?_⟩
     refine ⟨_, _, rfl, ?_⟩
     have hlen : (Sg.chn seed q d 67).length = 67 := by rw [HD.out, List.length_map, dfin_len 67 (by decide)]
     simp only [hlen, HI.out]
     exact yE.tail.tail
end Go.Proofs.YtjjpdnpbhdcpbaaGreat
