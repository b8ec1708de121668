/-
  Few, start, do. Conditions: at most 2^40 pending writes, records, 4096 pages.
-/
import Derived.Test.YtepdfeegklinfaaDkT
import Derived.Test.YtepdfeegklinfaaOpens
namespace Go.Proofs.Ytepdfeegklinfaa
set_option linter.unusedVariables false
open Go.RowKit Go.ChangeMaps Go.MapKept

/-- few and small enough -/
def few (L : List Ac) : Bool := L.all (fun a => decide (a.op.data.length ≤ 600) && decide (a.cs.length ≤ 20)) && decide (L.length ≤ 40)
theorem few_at {L : List Ac} (h : few L = true) : (∀ a ∈ L, a.op.data.length ≤ 600 ∧ a.cs.length ≤ 20) ∧ L.length ≤ 40 := by
  simp [few] at h
  exact h
set_option maxHeartbeats 1000000 in
theorem few_spec (A : Option Addr) (L : List Ac) (c : Nat) (w : World) (hR : Rd w A (acts L)) (hl : L.length ≤ 9223372036854775807) (hok : ∀ a ∈ L, AcOk w a) :
    Calls Try.prog 11 #[.slice A L.length c] w fun e w' => e = .returned (.bool (few L)) ∧ w = w' := by
  go_enter Try.func11, Try.ntmps11
  go_wp2
  go_loop [3] (fun i => ∃ k : Nat, k ≤ L.length ∧ i = .int .i64 k ∧ ∀ j (hj : j < L.length), j < k → L[j].op.data.length ≤ 600 ∧ L[j].cs.length ≤ 20) (fun i => L.length - (intOf i).toNat)
  case atStart => exact ⟨0, Nat.zero_le _, rfl, fun j hj h => by omega⟩
  case round =>
    obtain ⟨k, hk, rfl, hall⟩ := hrel
    by_cases hlt : k < L.length
    · obtain ⟨b, off, rfl, hbl, hcc⟩ := rd_elem acc 5 (fun _ => rfl) hR hlt (by omega)
      have hc2 := hcc 2 _ rfl
      have hc4 := hcc 4 _ rfl
      obtain ⟨_, _, hl1, hl2, _, _⟩ := hok _ (List.getElem_mem hlt)
      obtain ⟨a, ha⟩ : ∃ a, L[k] = a := ⟨_, rfl⟩
      rw [ha] at hc2 hc4 hl1 hl2
      have hk1 : (k : Int) < (L.length : Int) := by omega
      have hk0 : (0 : Int) ≤ (k : Int) := by omega
      have HA := Lib.hid (And.intro hall ha)
      have HR := Lib.hid (And.intro hR hok)
      clear hall ha hcc hR hok
      by_cases h6 : 600 < a.op.data.length
      · have h6' : decide (600 < (a.op.data.length : Int)) = true := by simp; omega
        go_wp2
        go_ret
        refine ⟨ret_eq (congrArg Value.bool ?_), rfl⟩
        symm
        rw [Bool.eq_false_iff]
        intro hf
        have := ((few_at hf).1 _ (List.getElem_mem hlt)).1
        rw [HA.out.2] at this
        omega
      · have h6' : decide (600 < (a.op.data.length : Int)) = false := by simp; omega
        by_cases h2 : 20 < a.cs.length
        · have h2' : decide (20 < (a.cs.length : Int)) = true := by simp; omega
          go_wp2
          go_ret
          refine ⟨ret_eq (congrArg Value.bool ?_), rfl⟩
          symm
          rw [Bool.eq_false_iff]
          intro hf
          have := ((few_at hf).1 _ (List.getElem_mem hlt)).2
          rw [HA.out.2] at this
          omega
        · have h2' : decide (20 < (a.cs.length : Int)) = false := by simp; omega
          go_wp2
          go_round
          case rel =>
            refine ⟨k + 1, by omega, by go_num, fun j hj hjk => ?_⟩
            by_cases e : j = k
            · subst e; rw [HA.out.2]; exact ⟨by omega, by omega⟩
            · exact HA.out.1 j hj (by omega)
          case measure => simp [intOf]; omega
    · obtain rfl : k = L.length := by omega
      have HA := Lib.hid hall
      clear hall
      go_wp2
      go_ret
      refine ⟨ret_eq (congrArg Value.bool ?_), rfl⟩
      have : L.all (fun a => decide (a.op.data.length ≤ 600) && decide (a.cs.length ≤ 20)) = true := by
        rw [List.all_eq_true]
        intro a ha
        obtain ⟨j, hj, rfl⟩ := List.getElem_of_mem ha
        have := HA.out j hj hj
        simp [this.1, this.2]
      simp [few, this]
      omega

/-- a disk and its reference, new -/
def StartP (n : Nat) (w : World) (e : Ending) (w' : World) : Prop := ∃ d v F, e = .returned (.tuple #[.pointer (some ⟨d, 0, none⟩), v]) ∧ Dsk w' F d (blank n) ∧ RV w' v (List.replicate n []) [] ∧ Below w.heap.size w w' ∧
  (∀ k, F k → w.heap.size ≤ k) ∧ InG (fun k => w.heap.size ≤ k ∧ k < w'.heap.size ∧ ¬ F k) v
set_option maxRecDepth 20000 in
set_option maxHeartbeats 2000000 in
theorem start_spec (p : Nat) (hp : p ≤ 255) (w : World) :
    Calls Try.prog 14 #[.int .u8 p] w (StartP (1 + p % 12) w) := by
  have h1 := new_spec (1 + p % 12) (w.alloc (.cells #[.slice none 0 0, .slice none 0 0] 32)) (by omega) (by omega)
  have hm : (p : Int).tmod 12 = ((p % 12 : Nat) : Int) := by rw [Int.tmod_eq_emod_of_nonneg (by omega)]; rfl
  have hu : (1 : Int) + ((p % 12 : Nat) : Int) = ((1 + p % 12 : Nat) : Int) := by omega
  obtain ⟨m, hmm⟩ : ∃ m, p % 12 = m := ⟨_, rfl⟩
  have hm12 : m < 12 := by omega
  rw [hmm] at h1 hm hu ⊢
  clear hmm
  obtain ⟨n, hn⟩ : ∃ n, 1 + m = n := ⟨_, rfl⟩
  have hn1 : 1 ≤ n ∧ n ≤ 12 := by omega
  rw [hn] at h1 hu ⊢
  clear hn
  go_enter Try.func14, Try.ntmps14
  go_wp2_with fail
  refine h1.mono ?_
  rintro e w1 ⟨d, rfl, hD, hb1⟩
  have h2 := rnew_spec n w1 (by omega) (by omega)
  have bk0 : Blk w1 w.heap.size 32 #[.slice none 0 0, .slice none 0 0] := (Blk.new w _ _).below hb1
  have HB := Lib.hid (And.intro hD (And.intro hb1 bk0))
  clear hD hb1 bk0
  go_wp2_with fail
  refine h2.mono ?_
  rintro e w2 ⟨v, rfl, ⟨A2, c2, A3, c3, rfl, q0, q1, m0, m1⟩, hb2, hG⟩
  go_wp2_with fail
  have hb0 : Below w.heap.size w w1 := ((Below.refl _ w).alloc (Nat.le_refl _) _).trans (HB.out.2.1.mono (by simp))
  have hs0 : w.heap.size + 1 ≤ w1.heap.size := by have := HB.out.2.1.size; simpa using this
  have hs2 := hb2.size
  have bk2 : Blk (w2.alloc (.cells #[.slice A2 n c2, .slice A3 0 c3] 32)) w.heap.size 32 #[.slice none 0 0, .slice none 0 0] := (HB.out.2.2.below hb2).alloc _
  have bkn : Blk (w2.alloc (.cells #[.slice A2 n c2, .slice A3 0 c3] 32)) w2.heap.size 32 #[.slice A2 n c2, .slice A3 0 c3] := Blk.new _ _ _
  have hb3 : Below w1.heap.size w1 (w2.alloc (.cells #[.slice A2 n c2, .slice A3 0 c3] 32)) := hb2.alloc hb2.size _
  have hsz3 : (w2.alloc (.cells #[.slice A2 n c2, .slice A3 0 c3] 32)).heap.size = w2.heap.size + 1 := by simp
  have q0' : Rd (w2.alloc (.cells #[.slice A2 n c2, .slice A3 0 c3] 32)) A2 (strs (List.replicate n [])) := q0.alloc _
  have q1' : Rd (w2.alloc (.cells #[.slice A2 n c2, .slice A3 0 c3] 32)) A3 (wrs []) := q1.alloc _
  rw [List.length_replicate] at hG
  have hG' : Kept (.bool false) (.agg #[.slice A2 n c2, .slice A3 0 c3]) w1 (w2.alloc (.cells #[.slice A2 n c2, .slice A3 0 c3] 32)) := hG.wide (Nat.le_refl _) (by simp)
  generalize w2.alloc (.cells #[.slice A2 n c2, .slice A3 0 c3] 32) = W at bk2 bkn hb3 hsz3 q0' q1' hG' ⊢
  have k0 := bkn.cell 0
  have k1 := bkn.cell 1
  have r0 := bk2.cell 0
  have r1 := bk2.cell 1
  have f0 := fun i => bk2.frozen i
  have l0 := bk2.lt
  have l1 := bkn.lt
  simp at k0 k1 r0 r1
  have HC := Lib.hid (And.intro hb0 (And.intro hb2 (And.intro bk2 (And.intro hb3 (And.intro hsz3 (And.intro q0' (And.intro q1' (And.intro hG' (And.intro m0 m1)))))))))
  clear hb0 hb2 bk2 hb3 hsz3 q0 q1 q0' q1' hG hG' m0 m1 bkn
  go_still_tail 3, (by kernel_rfl)
  change wpList _ _ _ _ _ W.drew
  go_wp2
  obtain ⟨hb0, hb2, bk2, hb3, hsz3, q0, q1, hG, m0, m1⟩ := HC.out
  have e0 := ((bk2.set_ 0 (.slice A2 n c2)).set_ 1 (.slice A3 0 c3)).cell 0
  have e1 := ((bk2.set_ 0 (.slice A2 n c2)).set_ 1 (.slice A3 0 c3)).cell 1
  simp at e0 e1
  refine bodyPost_ret (v := .tuple #[.pointer (some ⟨d, 0, none⟩), .agg #[.slice A2 n c2, .slice A3 0 c3]]) (by simp [results, Try.results14, go_sem, e0, e1]) rfl ?_
  have hRV : RV W (.agg #[.slice A2 n c2, .slice A3 0 c3]) (List.replicate n []) [] := ⟨A2, c2, A3, c3, by simp, q0, q1, m0, m1⟩
  have hbz : Below w.heap.size w ((W.setCell ⟨w.heap.size, 0, none⟩ (.slice A2 n c2)).setCell ⟨w.heap.size, 1, none⟩ (.slice A3 0 c3)) := ((hb0.trans (hb3.mono (by omega))).setCell (p := ⟨w.heap.size, 0, none⟩) (Nat.le_refl _) _).setCell (p := ⟨w.heap.size, 1, none⟩) (Nat.le_refl _) _
  have hD := ((HB.out.1.under hb3).mod (mod_set W w.heap.size 0 (.slice A2 n c2)) (fun k hk (e : k = w.heap.size) => by simp at hk; omega)).mod (mod_set _ w.heap.size 1 (.slice A3 0 c3)) (fun k hk (e : k = w.heap.size) => by simp at hk; omega)
  have hrv := rv_put hRV bk2
  have hin := hG (fun _ => False) (fun A n c B m d e => by cases e)
  have hzs : W.heap.size = ((W.setCell ⟨w.heap.size, 0, none⟩ (.slice A2 n c2)).setCell ⟨w.heap.size, 1, none⟩ (.slice A3 0 c3)).heap.size := by simp [World.setCell]
  generalize (W.setCell ⟨w.heap.size, 0, none⟩ (.slice A2 n c2)).setCell ⟨w.heap.size, 1, none⟩ (.slice A3 0 c3) = Z at hbz hD hrv hzs ⊢
  have hdr : Below Z.heap.size Z Z.drew := (Below.refl _ Z).drew
  refine ⟨d, _, _, rfl, hD.under hdr, hrv.below hdr, hbz.drew, fun k hk => by simp at hk; omega, hin.mono fun k hk => ?_⟩
  rcases hk with hk | hk
  · exact hk.elim
  · refine ⟨by omega, by show k < Z.heap.size; omega, fun hf => by omega⟩

theorem Dsk.ok {F : Nat → Prop} {w : World} {d : Nat} {S : Dk.Ds} (h : Dsk w F d S) : Dk.Ok S.dur S.pend := by
  obtain ⟨m, n, v0, v1, v4, D, h⟩ := h
  exact h.ok
theorem Dsk.small {F : Nat → Prop} {w : World} {d : Nat} {S : Dk.Ds} (h : Dsk w F d S) : S.dur.length ≤ 4096 := by
  obtain ⟨m, n, v0, v1, v4, D, h⟩ := h
  exact h.small
theorem InG.of {G : Nat → Prop} {A B : Option Addr} {n c m d : Nat} (h : InG G (.agg #[.slice A n c, .slice B m d])) : (∀ p, A = some p → G p.block) ∧ (∀ p, B = some p → G p.block) := h _ _ _ _ _ _ rfl
theorem RV.mod {w w' : World} {v : Value} {dur : List Dk.Str} {pend : List Dk.Wr} {F G : Nat → Prop} (h : RV w v dur pend) (hm : Mod F w w') (hi : InG G v) (hF : ∀ k, F k → ¬ G k) : RV w' v dur pend := by
  obtain ⟨A0, c0, A1, c1, rfl, r0, r1, n0, n1⟩ := h
  exact ⟨A0, c0, A1, c1, rfl, r0.mod hm (fun p hp hf => hF _ hf (hi.of.1 p hp)), r1.mod hm (fun p hp hf => hF _ hf (hi.of.2 p hp)), n0, n1⟩
/-- a disk and its reference, apart -/
structure Two (w : World) (F G : Nat → Prop) (d : Nat) (v : Value) (S : Dk.Ds) : Prop where
  D : Dsk w F d S
  R : RV w v S.dur S.pend
  I : InG G v
  X : ∀ k, F k → ¬ G k
  L : ∀ k, G k → k < w.heap.size
def stepS (S : Dk.Ds) (a : Ac) : Dk.Ds := if a.kind % 3 = 1 then Dk.crash S a.cs else if a.kind % 3 = 2 then Dk.sync S else Dk.write S a.op.page a.op.data
def acV (a : Ac) : Value := .agg #[.int .u8 a.kind, .int .i64 a.op.page, .string ⟨a.op.data.toArray⟩, .bool a.op.sync, .slice a.A a.cs.length a.c]
def DoP (F G : Nat → Prop) (d : Nat) (a : Ac) (S : Dk.Ds) (w : World) (e : Ending) (w' : World) : Prop :=
  ∃ v F' G', e = .returned (.tuple #[v, .bool true]) ∧ Two w' F' G' d v (stepS S a) ∧ Mod F w w' ∧ (∀ k, F' k → F k ∨ w.heap.size ≤ k) ∧ (∀ k, G' k → G k ∨ w.heap.size ≤ k)
/-- the end of 'do': the result's cell is written -/
theorem do_end {F G : Nat → Prop} {d : Nat} {S' : Dk.Ds} {v0 : Value} {w W w1 w2 : World} {A0 A1 : Option Addr} {n0 c0 n1 c1 : Nat} {a b : Option Addr} {n m c e : Nat} (hfb : ∀ k, F k → k < w.heap.size) (hI : InG G v0) (hX : ∀ k, F k → ¬ G k) (hL : ∀ k, G k → k < w.heap.size)
    (BW : Below w.heap.size w W) (hs : w.heap.size + 3 ≤ W.heap.size) (D1 : Dsk w1 (grow F W w1) d S') (m1 : Mod F W w1) (hb2 : Below w1.heap.size w1 w2) (V2 : RV w2 (.agg #[.slice A0 n0 c0, .slice A1 n1 c1]) S'.dur S'.pend) (hK : Kept v0 (.agg #[.slice A0 n0 c0, .slice A1 n1 c1]) w1 w2)
    (q2 : Blk w2 (w.heap.size + 1 + 1) 32 #[.slice a n c, .slice b m e]) :
    ∃ F' G', Two ((w2.setCell ⟨w.heap.size + 1 + 1, 0, none⟩ (.slice A0 n0 c0)).setCell ⟨w.heap.size + 1 + 1, 1, none⟩ (.slice A1 n1 c1)) F' G' d (.agg #[.slice A0 n0 c0, .slice A1 n1 c1]) S' ∧
      Mod F w ((w2.setCell ⟨w.heap.size + 1 + 1, 0, none⟩ (.slice A0 n0 c0)).setCell ⟨w.heap.size + 1 + 1, 1, none⟩ (.slice A1 n1 c1)) ∧ (∀ k, F' k → F k ∨ w.heap.size ≤ k) ∧ (∀ k, G' k → G k ∨ w.heap.size ≤ k) := by
  have hbs := BW.size
  have hs1 := m1.size
  have hs2 := hb2.size
  have hsz : ((w2.setCell ⟨w.heap.size + 1 + 1, 0, none⟩ (.slice A0 n0 c0)).setCell ⟨w.heap.size + 1 + 1, 1, none⟩ (.slice A1 n1 c1)).heap.size = w2.heap.size := by simp [World.setCell]
  refine ⟨grow F W w1, grow G w1 w2, ⟨?_, rv_put V2 q2, hK G hI, ?_, ?_⟩, ?_, ?_, ?_⟩
  · refine ((D1.under hb2).mod (mod_set w2 (w.heap.size + 1 + 1) 0 _) ?_).mod (mod_set _ (w.heap.size + 1 + 1) 1 _) ?_
    · rintro k (hk | hk) (hq : k = w.heap.size + 1 + 1)
      · have := hfb k hk; omega
      · omega
    · rintro k (hk | hk) (hq : k = w.heap.size + 1 + 1)
      · have := hfb k hk; omega
      · omega
  · rintro k (hk | hk) (hg | hg)
    · exact hX k hk hg
    · have := hfb k hk; omega
    · have := hL k hg; omega
    · omega
  · rintro k (hg | hg)
    · have := hL k hg; rw [hsz]; omega
    · rw [hsz]; omega
  · have t1 : Mod F w w2 := ((Mod.of_below BW F).trans m1).trans (Mod.of_below hb2 F)
    have t2 := mod_set w2 (w.heap.size + 1 + 1) 0 (.slice A0 n0 c0)
    have t3 := mod_set (w2.setCell ⟨w.heap.size + 1 + 1, 0, none⟩ (.slice A0 n0 c0)) (w.heap.size + 1 + 1) 1 (.slice A1 n1 c1)
    exact (t1.trans' t2 (fun i hi (he : i = w.heap.size + 1 + 1) => by omega)).trans' t3 (fun i hi (he : i = w.heap.size + 1 + 1) => by omega)
  · rintro k (hk | hk)
    · exact .inl hk
    · right; omega
  · rintro k (hk | hk)
    · exact .inl hk
    · right; omega
theorem write_dp (S : Dk.Ds) (p : Int) (x : Dk.Str) : (Dk.write S p x).dur = S.dur ∧ (Dk.write S p x).pend = Dk.wPend S.dur S.pend p x := by
  unfold Dk.write Dk.wPend
  split <;> exact ⟨rfl, rfl⟩
theorem do_fin {F G : Nat → Prop} {d : Nat} {S' : Dk.Ds} {v0 v : Value} {w W w1 X Y Z : World} (hfb : ∀ k, F k → k < w.heap.size) (hI : InG G v0) (hX : ∀ k, F k → ¬ G k) (hL : ∀ k, G k → k < w.heap.size)
    (hW : w.heap.size ≤ W.heap.size) (h1 : w1.heap.size ≤ X.heap.size) (h1w : W.heap.size ≤ w1.heap.size) (hz : Y.heap.size ≤ Z.heap.size) (hxy : X.heap.size ≤ Y.heap.size) (D : Dsk Z (grow F X Y) d S') (V2 : RV Z v S'.dur S'.pend) (hK : Kept v0 v W w1) (hm : Mod F w Z) :
    ∃ F' G', Two Z F' G' d v S' ∧ Mod F w Z ∧ (∀ k, F' k → F k ∨ w.heap.size ≤ k) ∧ (∀ k, G' k → G k ∨ w.heap.size ≤ k) := by
  refine ⟨grow F X Y, grow G W w1, ⟨D, V2, hK G hI, ?_, ?_⟩, hm, ?_, ?_⟩
  · rintro k (hk | hk) (hg | hg)
    · exact hX k hk hg
    · have := hfb k hk; omega
    · have := hL k hg; omega
    · omega
  · rintro k (hg | hg)
    · have := hL k hg; omega
    · omega
  · rintro k (hk | hk)
    · exact .inl hk
    · right; omega
  · rintro k (hk | hk)
    · exact .inl hk
    · right; omega
end Go.Proofs.Ytepdfeegklinfaa
