/-
  A block is added to the state of the program's SHA-256. Conditions: words below 2^32, blocks of 64 bytes.
-/
import Derived.Test.YtiklfjehhdbhfaaShC
namespace Go.Proofs.Ytiklfjehhdbhfaa
set_option linter.unusedVariables false
open Go.RowKit

/-- a state as cells -/
def hcells (ws : List Nat) (rest : Sh.Str) (tot : Nat) : Array Value := (u32s ws ++ [Value.string ⟨rest.toArray⟩, Value.int .u64 (tot : Int)]).toArray
def hashR (g : Nat) (ws : List Nat) (rest : Sh.Str) (tot : Nat) : Res := cellsR g 90 (hcells ws rest tot)
def mixw (s t : Sh.W8) (i : Nat) : List Nat := (Sh.add8 s t).list.take i ++ s.list.drop i
theorem quiet_same2 {P : Program} {f : FuncId} {args : Array Value} {w : World} {n m : Nat} {v : Value} (h : Calls P f args (w.drewN (n + m)) fun e w' => e = .returned v ∧ w' = w.drewN (n + m)) :
    Calls P f args (w.drewN (n + m)) fun e w'' => e = .returned v ∧ ∃ k, w'' = w.drewN (n + k) := h.mono fun _ _ ⟨he, hm⟩ => ⟨he, m, hm⟩
theorem hash_cells {w : World} {g : Nat} {s : Sh.W8} {rest : Sh.Str} {tot : Nat} (h : Blk w g 90 (hcells s.list rest tot)) : w.cell? ⟨g, 0, none⟩ = some (.int .u32 (s.a : Int)) ∧ w.cell? ⟨g, 1, none⟩ = some (.int .u32 (s.b : Int)) ∧ w.cell? ⟨g, 2, none⟩ = some (.int .u32 (s.c : Int)) ∧
    w.cell? ⟨g, 3, none⟩ = some (.int .u32 (s.d : Int)) ∧ w.cell? ⟨g, 4, none⟩ = some (.int .u32 (s.e : Int)) ∧ w.cell? ⟨g, 5, none⟩ = some (.int .u32 (s.f : Int)) ∧ w.cell? ⟨g, 6, none⟩ = some (.int .u32 (s.g : Int)) ∧ w.cell? ⟨g, 7, none⟩ = some (.int .u32 (s.h : Int)) ∧
    w.cell? ⟨g, 8, none⟩ = some (.string ⟨rest.toArray⟩) ∧ w.cell? ⟨g, 9, none⟩ = some (.int .u64 (tot : Int)) :=
  ⟨h.cell 0, h.cell 1, h.cell 2, h.cell 3, h.cell 4, h.cell 5, h.cell 6, h.cell 7, h.cell 8, h.cell 9⟩
theorem set8 {lo : Nat} {w0 w : World} {Rs : List Res} {g : Nat} {t : TypeId} {T : Sh.W8} (h : St lo w0 w (cellsR g t (arr T.list) :: Rs)) (a b c d e f k l : Nat) :
    St lo w0 ((((((((w.setCell ⟨g, 0, none⟩ (.int .u32 (a : Int))).setCell ⟨g, 1, none⟩ (.int .u32 (b : Int))).setCell ⟨g, 2, none⟩ (.int .u32 (c : Int))).setCell ⟨g, 3, none⟩ (.int .u32 (d : Int))).setCell ⟨g, 4, none⟩ (.int .u32 (e : Int))).setCell ⟨g, 5, none⟩ (.int .u32 (f : Int))).setCell ⟨g, 6, none⟩ (.int .u32 (k : Int))).setCell ⟨g, 7, none⟩ (.int .u32 (l : Int)))
      (cellsR g t (arr (⟨a, b, c, d, e, f, k, l⟩ : Sh.W8).list) :: Rs) := by
  have h8 := (((((((h.set_ 0 (.int .u32 (a : Int))).set_ 1 (.int .u32 (b : Int))).set_ 2 (.int .u32 (c : Int))).set_ 3 (.int .u32 (d : Int))).set_ 4 (.int .u32 (e : Int))).set_ 5 (.int .u32 (f : Int))).set_ 6 (.int .u32 (k : Int))).set_ 7 (.int .u32 (l : Int))
  simp only [arr_set] at h8
  exact h8
theorem lt8 {n : Nat} (h : n < 8) : n = 0 ∨ n = 1 ∨ n = 2 ∨ n = 3 ∨ n = 4 ∨ n = 5 ∨ n = 6 ∨ n = 7 := by omega
theorem run_index8 (T : Sh.W8) (n : Nat) (h : n < 8) (w : World) : (Instr.index 88 (.agg #[.int .u32 (T.a : Int), .int .u32 (T.b : Int), .int .u32 (T.c : Int), .int .u32 (T.d : Int), .int .u32 (T.e : Int), .int .u32 (T.f : Int), .int .u32 (T.g : Int), .int .u32 (T.h : Int)]) (.int .i64 (n : Int))).run Try.prog w = .ok (.int .u32 ((T.list.getD n 0 : Nat) : Int)) w := by
  rcases lt8 h with rfl | rfl | rfl | rfl | rfl | rfl | rfl | rfl <;> kernel_rfl
theorem mixw_get (s T : Sh.W8) (rest : Sh.Str) (tot n : Nat) (h : n < 8) : (hcells (mixw s T n) rest tot)[n]? = some (.int .u32 ((s.list.getD n 0 : Nat) : Int)) := by
  rcases lt8 h with rfl | rfl | rfl | rfl | rfl | rfl | rfl | rfl <;> rfl
theorem mixw_next (s T : Sh.W8) (rest : Sh.Str) (tot n : Nat) (h : n < 8) : ((s.list.getD n 0 : Int) + (T.list.getD n 0 : Int)) % 4294967296 = ((Sh.add8 s T).list.getD n 0 : Int) ∧
    (hcells (mixw s T n) rest tot).setIfInBounds n (.int .u32 (((Sh.add8 s T).list.getD n 0 : Nat) : Int)) = hcells (mixw s T (n + 1)) rest tot := by
  rcases lt8 h with rfl | rfl | rfl | rfl | rfl | rfl | rfl | rfl <;> exact ⟨by simp [Sh.W8.list, Sh.add8], rfl⟩
set_option maxRecDepth 20000 in
set_option maxHeartbeats 4000000 in
theorem add_spec {lo : Nat} {w0 w : World} {Rs : List Res} {g : Nat} {s : Sh.W8} {rest : Sh.Str} {tot : Nat} (h : St lo w0 w (hashR g s.list rest tot :: Rs)) (hs : s.Ok) (b : Sh.Str) (hb : b.length = 64) :
    Calls Try.prog 75 #[.pointer (some ⟨g, 0, none⟩), .string ⟨b.toArray⟩] w fun e w' => e = .returned (.tuple #[]) ∧ St lo w0 w' (hashR g (Sh.block s b).list rest tot :: Rs) := by
  have HS := Lib.hid (And.intro hs hb)
  clear hs hb
  go_enter Try.func75, Try.ntmps75
  go_wp2_with fail
  refine (schedule_spec b HS.out.2 w).mono ?_
  rintro e w1 ⟨rfl, b1⟩
  have h1 := h.under b1
  clear h
  go_wp2_with fail
  refine (constants_spec w1).mono ?_
  rintro e w2 ⟨rfl, b2⟩
  have h2 := h1.under b2
  clear h1 b1 b2
  have HA := Lib.hid (And.intro (show (arr (Sh.sched b)).size = 64 by rw [arr_size, Sh.sched_length]) (show (arr Sh.ks).size = 64 by rw [arr_size]; rfl))
  have h3 := (h2.alloc 95 (arr (padz []))).alloc 95 (arr (padz []))
  rw [World.size_alloc] at h3
  obtain ⟨L, hL⟩ : ∃ L, Sh.sched b = L := ⟨_, rfl⟩
  obtain ⟨K, hK⟩ : ∃ K, Sh.ks = K := ⟨_, rfl⟩
  rw [hL, hK] at HA ⊢
  have HL := Lib.hid (And.intro hL hK)
  clear hL hK
  go_wp2_with (first
    | (with_reducible refine store_all (h3.front 1 (by simp)) rfl 95 _ _ rfl (arr L) ?_ ?_ ?_ ?_ ?_ ?_
       · exact rfl
       · exact rfl
       · rw [HA.out.1]; exact (arr_size (padz [])).symm
       · rw [HA.out.1]; exact size72
       · exact arr_one _
       intro w3 h4)
    | (with_reducible refine store_all (h4.front 1 (by simp)) rfl 95 _ _ rfl (arr K) ?_ ?_ ?_ ?_ ?_ ?_
       · exact rfl
       · exact rfl
       · rw [HA.out.2]; exact (arr_size (padz [])).symm
       · rw [HA.out.2]; exact size72
       · exact arr_one _
       intro w4 h5
       obtain ⟨q0, q1, q2, q3, q4, q5, q6, q7, _⟩ := hash_cells (h5.front 2 (by simp)).blk))
  have h6 := h5.alloc 88 (arr s.list)
  replace h6 : St lo w0 (w4.alloc (.cells #[.int .u32 (s.a : Int), .int .u32 (s.b : Int), .int .u32 (s.c : Int), .int .u32 (s.d : Int), .int .u32 (s.e : Int), .int .u32 (s.f : Int), .int .u32 (s.g : Int), .int .u32 (s.h : Int)] 88))
    (cellsR w4.heap.size 88 (arr s.list) :: cellsR (w2.heap.size + 1) 95 (arr K) :: cellsR w2.heap.size 95 (arr L) :: hashR g s.list rest tot :: Rs) := h6
  generalize w4.alloc (.cells #[.int .u32 (s.a : Int), .int .u32 (s.b : Int), .int .u32 (s.c : Int), .int .u32 (s.d : Int), .int .u32 (s.e : Int), .int .u32 (s.f : Int), .int .u32 (s.g : Int), .int .u32 (s.h : Int)] 88) = W at h6 ⊢
  clear h3 h4 h5 q0 q1 q2 q3 q4 q5 q6 q7
  generalize w4.heap.size = gV at h6 ⊢
  generalize w2.heap.size + 1 = gK at h6 ⊢
  generalize w2.heap.size = gL at h6 ⊢
  go_loopw [26] (fun i wr => ∃ n : Nat, n ≤ 64 ∧ i = .int .i64 n ∧ St lo w0 wr (cellsR gV 88 (arr (Sh.rounds s ((K.zip L).take n)).list) :: cellsR gK 95 (arr K) :: cellsR gL 95 (arr L) :: hashR g s.list rest tot :: Rs)) (fun i _ => 64 - (intOf i).toNat)
  case atStart => exact ⟨0, by omega, rfl, h6⟩
  case round =>
    obtain ⟨n, hn, rfl, h⟩ := hrel
    clear h6
    by_cases hlt : n < 64
    · have hk1 : (n : Int) < 64 := by omega
      have hk0 : (0 : Int) ≤ (n : Int) := by omega
      have hT := Sh.rounds_ok ((K.zip L).take n) HS.out.1
      have hKl : K.length = 64 := by have := HA.out.2; rwa [arr_size] at this
      have hLl : L.length = 64 := by have := HA.out.1; rwa [arr_size] at this
      have hst : Sh.rounds s ((K.zip L).take (n + 1)) = Sh.rnd (Sh.rounds s ((K.zip L).take n)) (K.getD n 0) (L.getD n 0) := by
        have hz : n < (K.zip L).length := by rw [List.length_zip]; omega
        rw [List.take_add_one, List.getElem?_eq_getElem hz]
        show Sh.rounds s (_ ++ [(K.zip L)[n]]) = _
        rw [Sh.rounds_snoc, List.getElem_zip]
        simp [hKl, hLl, hlt]
      have cK := (h.front 1 (by simp)).blk.cell n
      have cL := (h.front 2 (by simp)).blk.cell n
      rw [arr_get _ _ (by omega)] at cK cL
      have lK : K.getD n 0 < 4294967296 := by
        have hm : K.getD n 0 ∈ K := by rw [List.getD_eq_getElem?_getD, List.getElem?_eq_getElem (by omega)]; exact List.getElem_mem _
        rw [← HL.out.2] at hm ⊢
        exact Sh.ks_lt _ hm
      have lL : L.getD n 0 < 4294967296 := by
        have hm : L.getD n 0 ∈ L := by rw [List.getD_eq_getElem?_getD, List.getElem?_eq_getElem (by omega)]; exact List.getElem_mem _
        rw [← HL.out.1] at hm ⊢
        exact Sh.sched_lt _ _ hm
      generalize K.getD n 0 = kn at cK lK hst
      generalize L.getD n 0 = wn at cL lL hst
      obtain ⟨T, hTe⟩ : ∃ T, Sh.rounds s ((K.zip L).take n) = T := ⟨_, rfl⟩
      rw [hTe] at h hT hst
      have HT := Lib.hid (And.intro hst hT)
      clear hTe hst hKl hLl
      obtain ⟨a, b', c, d, e, f, gg, hh⟩ := T
      obtain ⟨la, lb, lc, ld, le, lf, lg, lh⟩ := hT
      simp only at la lb lc ld le lf lg lh
      have bV := h.blk
      have v0 : wr.cell? ⟨gV, 0, none⟩ = some (.int .u32 (a : Int)) := bV.cell 0
      have v1 : wr.cell? ⟨gV, 1, none⟩ = some (.int .u32 (b' : Int)) := bV.cell 1
      have v2 : wr.cell? ⟨gV, 2, none⟩ = some (.int .u32 (c : Int)) := bV.cell 2
      have v3 : wr.cell? ⟨gV, 3, none⟩ = some (.int .u32 (d : Int)) := bV.cell 3
      have v4 : wr.cell? ⟨gV, 4, none⟩ = some (.int .u32 (e : Int)) := bV.cell 4
      have v5 : wr.cell? ⟨gV, 5, none⟩ = some (.int .u32 (f : Int)) := bV.cell 5
      have v6 : wr.cell? ⟨gV, 6, none⟩ = some (.int .u32 (gg : Int)) := bV.cell 6
      have v7 : wr.cell? ⟨gV, 7, none⟩ = some (.int .u32 (hh : Int)) := bV.cell 7
      have fV := fun i => bV.frozen i
      have lV := bV.lt
      clear bV
      have k1 : ∀ X, Calls Try.prog 84 #[.int .u32 (e : Int), .int .i64 6, .int .i64 11, .int .i64 25] X fun e' w' => e' = .returned (.int .u32 (Sh.bS1 e : Nat)) ∧ X = w' := fun X => mixadd_spec e 6 11 25 le (by decide) (by decide) (by decide) (by decide) (by decide) (by decide) X
      have k2 : ∀ X, Calls Try.prog 84 #[.int .u32 (a : Int), .int .i64 2, .int .i64 13, .int .i64 22] X fun e' w' => e' = .returned (.int .u32 (Sh.bS0 a : Nat)) ∧ X = w' := fun X => mixadd_spec a 2 13 22 la (by decide) (by decide) (by decide) (by decide) (by decide) (by decide) X
      have o1 := u32_and_nat e f le lf
      have o2 : bits .xor .u32 IntKind.u32.max (e : Int) = ((4294967295 ^^^ e : Nat) : Int) := u32_xor_nat 4294967295 e (by decide) le
      have o3 := u32_and_nat (4294967295 ^^^ e) gg (Sh.xor_lt (by decide) le) lg
      have o4 := u32_xor_nat (e &&& f) ((4294967295 ^^^ e) &&& gg) (Sh.and_lt le) (Sh.and_lt (Sh.xor_lt (by decide) le))
      have p1 := u32_and_nat a b' la lb
      have p2 := u32_and_nat a c la lc
      have p3 := u32_and_nat b' c lb lc
      have p4 := u32_xor_nat (a &&& b') (a &&& c) (Sh.and_lt la) (Sh.and_lt la)
      have p5 := u32_xor_nat ((a &&& b') ^^^ (a &&& c)) (b' &&& c) (Sh.xor_lt (Sh.and_lt la) (Sh.and_lt la)) (Sh.and_lt lb)
      have t1e : Sh.t1 ⟨a, b', c, d, e, f, gg, hh⟩ kn wn = (hh + Sh.bS1 e + ((e &&& f) ^^^ ((4294967295 ^^^ e) &&& gg)) + kn + wn) % 4294967296 := rfl
      have t2e : Sh.t2 ⟨a, b', c, d, e, f, gg, hh⟩ = (Sh.bS0 a + ((a &&& b') ^^^ (a &&& c) ^^^ (b' &&& c))) % 4294967296 := rfl
      generalize (e &&& f) ^^^ ((4294967295 ^^^ e) &&& gg) = z1 at o4 t1e
      generalize (4294967295 ^^^ e) &&& gg = z2 at o3 o4
      generalize 4294967295 ^^^ e = z3 at o2 o3
      generalize e &&& f = z4 at o1 o4
      generalize (a &&& b') ^^^ (a &&& c) ^^^ (b' &&& c) = y1 at p5 t2e
      generalize (a &&& b') ^^^ (a &&& c) = y2 at p4 p5
      generalize a &&& b' = y3 at p1 p4
      generalize a &&& c = y4 at p2 p4
      generalize b' &&& c = y5 at p3 p5
      generalize Sh.bS1 e = m1 at k1 t1e
      generalize Sh.bS0 a = m2 at k2 t2e
      obtain ⟨T1, hT1⟩ : ∃ T1, Sh.t1 ⟨a, b', c, d, e, f, gg, hh⟩ kn wn = T1 := ⟨_, rfl⟩
      obtain ⟨T2, hT2⟩ : ∃ T2, Sh.t2 ⟨a, b', c, d, e, f, gg, hh⟩ = T2 := ⟨_, rfl⟩
      rw [hT1] at t1e
      rw [hT2] at t2e
      have s2 : IntKind.u32.wrap ((m2 : Int) + y1) = (T2 : Int) := by rw [t2e, IntKind.wrap_u32']; omega
      obtain ⟨N1, hN1⟩ : ∃ N1, (T1 + T2) % 4294967296 = N1 := ⟨_, rfl⟩
      obtain ⟨N2, hN2⟩ : ∃ N2, (d + T1) % 4294967296 = N2 := ⟨_, rfl⟩
      have s3 : ((hh : Int) + m1 + z1 + kn + wn + T2) % 4294967296 = (N1 : Int) := by rw [← hN1, t1e]; omega
      have s4 : ((d : Int) + (hh + m1 + z1 + kn + wn)) % 4294967296 = (N2 : Int) := by rw [← hN2, t1e]; omega
      have hnew : (Sh.rnd ⟨a, b', c, d, e, f, gg, hh⟩ kn wn) = ⟨N1, a, b', c, N2, e, f, gg⟩ := by
        unfold Sh.rnd
        rw [hT1, hT2]
        simp only [hN1, hN2]
      have HN := Lib.hid hnew
      clear t1e t2e hT1 hT2 hN1 hN2 hnew la lb lc ld le lf lg lh lK lL
      have hSt := h
      have k1q := fun X => (k1 X).mono (fun e' w' h => And.intro h.1 h.2.symm)
      go_wp2_with fail
      go_quiet (fail)
      go_wp2_with fail
      go_quiet (first
        | (go_at_call 84; with_reducible exact quiet_same2 (k1q _)))
      go_wp2_with fail
      refine (k2 _).mono ?_
      rintro e' w5 ⟨rfl, rfl⟩
      go_wp2
      go_roundw
      case rel =>
        refine ⟨n + 1, by omega, by go_num, ?_⟩
        rw [HT.out.1, HN.out]
        exact set8 (hSt.drewN _) N1 a b' c N2 e f gg
      case measure => simp [intOf]; omega
    · have hn64 : n = 64 := by omega
      have hd : decide ((n : Int) < 64) = false := by simp; omega
      have hfull : (K.zip L).take n = K.zip L := by
        have hKl : K.length = 64 := by have := HA.out.2; rwa [arr_size] at this
        have hLl : L.length = 64 := by have := HA.out.1; rwa [arr_size] at this
        rw [hn64, List.take_of_length_le (by rw [List.length_zip]; omega)]
      rw [hfull] at h
      clear hn64 hfull
      have hT := Sh.rounds_ok (K.zip L) HS.out.1
      obtain ⟨T, hTe⟩ : ∃ T, Sh.rounds s (K.zip L) = T := ⟨_, rfl⟩
      rw [hTe] at h hT
      have HT := Lib.hid (And.intro hTe hT)
      clear hTe hT
      have bV := h.blk
      have v0 : wr.cell? ⟨gV, 0, none⟩ = some (.int .u32 (T.a : Int)) := bV.cell 0
      have v1 : wr.cell? ⟨gV, 1, none⟩ = some (.int .u32 (T.b : Int)) := bV.cell 1
      have v2 : wr.cell? ⟨gV, 2, none⟩ = some (.int .u32 (T.c : Int)) := bV.cell 2
      have v3 : wr.cell? ⟨gV, 3, none⟩ = some (.int .u32 (T.d : Int)) := bV.cell 3
      have v4 : wr.cell? ⟨gV, 4, none⟩ = some (.int .u32 (T.e : Int)) := bV.cell 4
      have v5 : wr.cell? ⟨gV, 5, none⟩ = some (.int .u32 (T.f : Int)) := bV.cell 5
      have v6 : wr.cell? ⟨gV, 6, none⟩ = some (.int .u32 (T.g : Int)) := bV.cell 6
      have v7 : wr.cell? ⟨gV, 7, none⟩ = some (.int .u32 (T.h : Int)) := bV.cell 7
      clear bV
      have h7 : St lo w0 wr (hashR g (mixw s T 0) rest tot :: Rs) := ((h.tail.tail).tail)
      clear h
      go_wp2
      go_loopw [95] (fun i wr => ∃ n : Nat, n ≤ 8 ∧ i = .int .i64 n ∧ St lo w0 wr (hashR g (mixw s T n) rest tot :: Rs)) (fun i _ => 8 - (intOf i).toNat)
      case atStart => exact ⟨0, by omega, rfl, h7⟩
      case round =>
        clear v0 v1 v2 v3 v4 v5 v6 v7 h7 hd
        obtain ⟨n, hn, rfl, h⟩ := hrel
        by_cases hlt : n < 8
        · have hk1 : (n : Int) < 8 := by omega
          have hk0 : (0 : Int) ≤ (n : Int) := by omega
          have bh := h.blk
          have cn : wr.cell? ⟨g, n, none⟩ = some (.int .u32 ((s.list.getD n 0 : Nat) : Int)) := by rw [bh.cell, mixw_get s T rest tot n hlt]
          have ff := bh.frozen n
          have lh := bh.lt
          have hix := run_index8 T n hlt wr
          obtain ⟨hsum, hmix⟩ := mixw_next s T rest tot n hlt
          have HM := Lib.hid hmix
          clear bh hmix
          generalize s.list.getD n 0 = y at cn hsum
          generalize T.list.getD n 0 = x at hix hsum
          obtain ⟨v, hv⟩ : ∃ v, (Sh.add8 s T).list.getD n 0 = v := ⟨_, rfl⟩
          rw [hv] at hsum
          have HV := Lib.hid hv
          clear hv
          go_wp2_with fail
          go_region
          go_wp2
          go_roundw
          case rel =>
            refine ⟨n + 1, by omega, by go_num, ?_⟩
            have h8 := h.set_ n (.int .u32 (v : Int))
            rw [← HV.out, HM.out, HV.out] at h8
            exact h8.drew
          case measure => simp [intOf]; omega
        · have hn8 : n = 8 := by omega
          have hd : decide ((n : Int) < 8) = false := by simp; omega
          have hm : mixw s T n = (Sh.block s b).list := by
            rw [hn8]
            unfold Sh.block
            rw [HL.out.1, HL.out.2, HT.out.1]
            rfl
          rw [hm] at h
          have HH := Lib.hid h
          clear hm hn8 h
          go_wp2
          go_end0
          exact ⟨rfl, HH.out⟩
end Go.Proofs.Ytiklfjehhdbhfaa
