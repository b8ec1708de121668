/-
  The compression of the reference's SHA-256. Conditions: blocks of 64 bytes, words below 2^32.
-/
import Derived.Test.YtiklfjehhdbhfaaShT
namespace Go.Proofs.Ytiklfjehhdbhfaa
set_option linter.unusedVariables false
open Go.RowKit

set_option maxRecDepth 20000 in
set_option maxHeartbeats 4000000 in
theorem compress_spec {lo : Nat} {w0 w : World} {Rs : List Res} {v : Value} {s : Sh.W8} (h : St lo w0 w (ownR 62 1 v 8 (u32s s.list) :: Rs)) (hs : s.Ok) (b : Sh.Str) (hb : b.length = 64) :
    Calls Try.prog 61 #[v, .string ⟨b.toArray⟩] w fun e w' => ∃ v', e = .returned v' ∧ St lo w0 w' (ownR 62 1 v' 8 (u32s (Sh.block s b).list) :: ownR 62 1 v 8 (u32s s.list) :: Rs) := by
  have HS := Lib.hid (And.intro hs hb)
  clear hs hb
  go_enter Try.func61, Try.ntmps61
  go_wp2_with fail
  refine (rschedule_spec b HS.out.2 w).mono ?_
  rintro e w1 ⟨vw, rfl, h1⟩
  have h2 := h.join h1
  clear h h1
  go_wp2_with fail
  refine (rconstants_spec h2).mono ?_
  rintro e w2 ⟨vk, rfl, h3⟩
  clear h2
  replace h3 : St lo w0 w2 (ownR 62 1 vk 64 (u32s Sh.ks) :: ownR 62 1 vw 64 (u32s (Sh.sched b)) :: ownR 62 1 v 8 (u32s s.list) :: Rs) := h3
  obtain ⟨gv, cv, hv, _, cs⟩ := row_u32 ((h3.front 2 (by simp)).own) (by decide)
  obtain ⟨gk, ck, hvk, lk, kk⟩ := row_u32 h3.own (by decide)
  obtain ⟨gw, cw, hvw, lw, kw⟩ := row_u32 ((h3.front 1 (by simp)).own) (by decide)
  subst hv hvk hvw
  have q0 : w2.cell? ⟨gv, 0, none⟩ = some (.int .u32 (s.a : Int)) := cs 0 (by decide)
  have q1 : w2.cell? ⟨gv, 1, none⟩ = some (.int .u32 (s.b : Int)) := cs 1 (by decide)
  have q2 : w2.cell? ⟨gv, 2, none⟩ = some (.int .u32 (s.c : Int)) := cs 2 (by decide)
  have q3 : w2.cell? ⟨gv, 3, none⟩ = some (.int .u32 (s.d : Int)) := cs 3 (by decide)
  have q4 : w2.cell? ⟨gv, 4, none⟩ = some (.int .u32 (s.e : Int)) := cs 4 (by decide)
  have q5 : w2.cell? ⟨gv, 5, none⟩ = some (.int .u32 (s.f : Int)) := cs 5 (by decide)
  have q6 : w2.cell? ⟨gv, 6, none⟩ = some (.int .u32 (s.g : Int)) := cs 6 (by decide)
  have q7 : w2.cell? ⟨gv, 7, none⟩ = some (.int .u32 (s.h : Int)) := cs 7 (by decide)
  obtain ⟨L, hL⟩ : ∃ L, Sh.sched b = L := ⟨_, rfl⟩
  obtain ⟨K, hK⟩ : ∃ K, Sh.ks = K := ⟨_, rfl⟩
  rw [hL] at kw
  rw [hK] at kk
  have H3 := Lib.hid h3
  have HA := Lib.hid (And.intro cs (And.intro kk kw))
  have HL := Lib.hid (And.intro (And.intro hL hK) (And.intro (show L.length = 64 by rw [← hL, Sh.sched_length]) (show K.length = 64 by rw [← hK]; rfl)))
  clear cs kk kw hL hK h3
  go_wp2_with fail
  go_quiet (fail)
  go_wp2
  clear q0 q1 q2 q3 q4 q5 q6 q7
  have H4 := Lib.hid (H3.out.drewN nq)
  have HB := Lib.hid (show (∀ j, j < 64 → (w2.drewN nq).cell? ⟨gk, j, none⟩ = some (.int .u32 ((K.getD j 0 : Nat) : Int))) ∧ (∀ j, j < 64 → (w2.drewN nq).cell? ⟨gw, j, none⟩ = some (.int .u32 ((L.getD j 0 : Nat) : Int))) ∧ (∀ j, j < 8 → (w2.drewN nq).cell? ⟨gv, j, none⟩ = some (.int .u32 ((s.list.getD j 0 : Nat) : Int))) from ⟨HA.out.2.1, HA.out.2.2, HA.out.1⟩)
  clear H3 HA
  generalize w2.drewN nq = w3 at H4 HB ⊢
  go_loopw [7, 8, 9, 10, 11, 12, 13, 14, 15] (fun xa xb xc xd xe xf xg xh i wr => ∃ (k m : Nat), k ≤ 64 ∧ i = .int .i64 k ∧ wr = w3.drewN m ∧ xa = .int .u32 ((Sh.rounds s ((K.zip L).take k)).a : Int) ∧ xb = .int .u32 ((Sh.rounds s ((K.zip L).take k)).b : Int) ∧ xc = .int .u32 ((Sh.rounds s ((K.zip L).take k)).c : Int) ∧ xd = .int .u32 ((Sh.rounds s ((K.zip L).take k)).d : Int) ∧ xe = .int .u32 ((Sh.rounds s ((K.zip L).take k)).e : Int) ∧ xf = .int .u32 ((Sh.rounds s ((K.zip L).take k)).f : Int) ∧ xg = .int .u32 ((Sh.rounds s ((K.zip L).take k)).g : Int) ∧ xh = .int .u32 ((Sh.rounds s ((K.zip L).take k)).h : Int)) (fun _ _ _ _ _ _ _ _ i _ => 64 - (intOf i).toNat)
  case atStart => exact ⟨0, 0, by omega, rfl, rfl, rfl, rfl, rfl, rfl, rfl, rfl, rfl, rfl⟩
  case round =>
    obtain ⟨n, m, hn, rfl, hw, rfl, rfl, rfl, rfl, rfl, rfl, rfl, rfl⟩ := hrel
    by_cases hlt : n < 64
    · have hk1 : (n : Int) < 64 := by omega
      have hk0 : (0 : Int) ≤ (n : Int) := by omega
      have hT := Sh.rounds_ok ((K.zip L).take n) HS.out.1
      have hKl : K.length = 64 := HL.out.2.2
      have hLl : L.length = 64 := HL.out.2.1
      have hst : Sh.rounds s ((K.zip L).take (n + 1)) = Sh.rnd (Sh.rounds s ((K.zip L).take n)) (K.getD n 0) (L.getD n 0) := by
        have hz : n < (K.zip L).length := by rw [List.length_zip]; omega
        rw [List.take_add_one, List.getElem?_eq_getElem hz]
        show Sh.rounds s (_ ++ [(K.zip L)[n]]) = _
        rw [Sh.rounds_snoc, List.getElem_zip]
        simp [hKl, hLl, hlt]
      have cK : wr.cell? ⟨gk, n, none⟩ = some (.int .u32 ((K.getD n 0 : Nat) : Int)) := by rw [hw]; exact HB.out.1 n hlt
      have cL : wr.cell? ⟨gw, n, none⟩ = some (.int .u32 ((L.getD n 0 : Nat) : Int)) := by rw [hw]; exact HB.out.2.1 n hlt
      have lK : K.getD n 0 < 4294967296 := by
        have hm : K.getD n 0 ∈ K := by rw [List.getD_eq_getElem?_getD, List.getElem?_eq_getElem (by omega)]; exact List.getElem_mem _
        rw [← HL.out.1.2] at hm ⊢
        exact Sh.ks_lt _ hm
      have lL : L.getD n 0 < 4294967296 := by
        have hm : L.getD n 0 ∈ L := by rw [List.getD_eq_getElem?_getD, List.getElem?_eq_getElem (by omega)]; exact List.getElem_mem _
        rw [← HL.out.1.1] at hm ⊢
        exact Sh.sched_lt _ _ hm
      generalize K.getD n 0 = kn at cK lK hst
      generalize L.getD n 0 = wn at cL lL hst
      have HW := Lib.hid hw
      clear hw hKl hLl
      generalize Sh.rounds s ((K.zip L).take n) = T at hst hT ⊢
      obtain ⟨a, b', c, d, e, f, gg, hh⟩ := T
      obtain ⟨la, lb, lc, ld, le, lf, lg, lh⟩ := hT
      simp only at la lb lc ld le lf lg lh
      have k1 : ∀ n : Nat, 1 ≤ n → n ≤ 31 → ∀ X, Calls Try.prog 74 #[.int .u32 (e : Int), .int .i64 (n : Int)] X fun e' w' => e' = .returned (.int .u32 (Sh.rot e n)) ∧ ∃ k, w' = X.drewN k := fun n h1 h2 X => rotr_spec e n le h1 h2 X
      have k2 : ∀ n : Nat, 1 ≤ n → n ≤ 31 → ∀ X, Calls Try.prog 74 #[.int .u32 (a : Int), .int .i64 (n : Int)] X fun e' w' => e' = .returned (.int .u32 (Sh.rot a n)) ∧ ∃ k, w' = X.drewN k := fun n h1 h2 X => rotr_spec a n la h1 h2 X
      have r1 : ∀ X, Calls Try.prog 74 #[.int .u32 (e : Int), .int .i64 6] X fun e' w' => e' = .returned (.int .u32 (Sh.rot e 6)) ∧ ∃ k, w' = X.drewN k := fun X => k1 6 (by decide) (by decide) X
      have r2 : ∀ X, Calls Try.prog 74 #[.int .u32 (e : Int), .int .i64 11] X fun e' w' => e' = .returned (.int .u32 (Sh.rot e 11)) ∧ ∃ k, w' = X.drewN k := fun X => k1 11 (by decide) (by decide) X
      have r3 : ∀ X, Calls Try.prog 74 #[.int .u32 (e : Int), .int .i64 25] X fun e' w' => e' = .returned (.int .u32 (Sh.rot e 25)) ∧ ∃ k, w' = X.drewN k := fun X => k1 25 (by decide) (by decide) X
      have r4 : ∀ X, Calls Try.prog 74 #[.int .u32 (a : Int), .int .i64 2] X fun e' w' => e' = .returned (.int .u32 (Sh.rot a 2)) ∧ ∃ k, w' = X.drewN k := fun X => k2 2 (by decide) (by decide) X
      have r5 : ∀ X, Calls Try.prog 74 #[.int .u32 (a : Int), .int .i64 13] X fun e' w' => e' = .returned (.int .u32 (Sh.rot a 13)) ∧ ∃ k, w' = X.drewN k := fun X => k2 13 (by decide) (by decide) X
      have r6 : ∀ X, Calls Try.prog 74 #[.int .u32 (a : Int), .int .i64 22] X fun e' w' => e' = .returned (.int .u32 (Sh.rot a 22)) ∧ ∃ k, w' = X.drewN k := fun X => k2 22 (by decide) (by decide) X
      have u1 : bits .xor .u32 (bits .xor .u32 (Sh.rot e 6 : Int) (Sh.rot e 11 : Int)) (Sh.rot e 25 : Int) = ((Sh.bS1 e : Nat) : Int) := rot3 e 6 11 25 le
      have u2 : bits .xor .u32 (bits .xor .u32 (Sh.rot a 2 : Int) (Sh.rot a 13 : Int)) (Sh.rot a 22 : Int) = ((Sh.bS0 a : Nat) : Int) := rot3 a 2 13 22 la
      clear k1 k2
      generalize Sh.rot e 6 = g1 at r1 u1
      generalize Sh.rot e 11 = g2 at r2 u1
      generalize Sh.rot e 25 = g3 at r3 u1
      generalize Sh.rot a 2 = g4 at r4 u2
      generalize Sh.rot a 13 = g5 at r5 u2
      generalize Sh.rot a 22 = g6 at r6 u2
      have o1 := u32_and_nat e f le lf
      have o2 : bits .xor .u32 IntKind.u32.max (e : Int) = ((4294967295 ^^^ e : Nat) : Int) := u32_xor_nat 4294967295 e (by decide) le
      have o3 := u32_and_nat (4294967295 ^^^ e) gg (Sh.xor_lt (by decide) le) lg
      have o4 := u32_xor_nat (e &&& f) ((4294967295 ^^^ e) &&& gg) (Sh.and_lt le) (Sh.and_lt (Sh.xor_lt (by decide) le))
      have p1 := u32_and_nat a b' la lb
      have p2 := u32_and_nat a c la lc
      have p3 := u32_and_nat b' c lb lc
      have p4 := u32_xor_nat (a &&& b') (a &&& c) (Sh.and_lt la) (Sh.and_lt la)
      have p5 := u32_xor_nat ((a &&& b') ^^^ (a &&& c)) (b' &&& c) (Sh.xor_lt (Sh.and_lt la) (Sh.and_lt la)) (Sh.and_lt lb)
      have t1e : Sh.t1 ⟨a, b', c, d, e, f, gg, hh⟩ kn wn = (hh + Sh.bS1 e + ((e &&& f) ^^^ ((4294967295 ^^^ e) &&& gg)) + kn + wn) % 4294967296 := rfl
      have t2e : Sh.t2 ⟨a, b', c, d, e, f, gg, hh⟩ = (Sh.bS0 a + ((a &&& b') ^^^ (a &&& c) ^^^ (b' &&& c))) % 4294967296 := rfl
      generalize (e &&& f) ^^^ ((4294967295 ^^^ e) &&& gg) = z1 at o4 t1e
      generalize (4294967295 ^^^ e) &&& gg = z2 at o3 o4
      generalize 4294967295 ^^^ e = z3 at o2 o3
      generalize e &&& f = z4 at o1 o4
      generalize (a &&& b') ^^^ (a &&& c) ^^^ (b' &&& c) = y1 at p5 t2e
      generalize (a &&& b') ^^^ (a &&& c) = y2 at p4 p5
      generalize a &&& b' = y3 at p1 p4
      generalize a &&& c = y4 at p2 p4
      generalize b' &&& c = y5 at p3 p5
      generalize Sh.bS1 e = m1 at u1 t1e
      generalize Sh.bS0 a = m2 at u2 t2e
      obtain ⟨T1, hT1⟩ : ∃ T1, Sh.t1 ⟨a, b', c, d, e, f, gg, hh⟩ kn wn = T1 := ⟨_, rfl⟩
      obtain ⟨T2, hT2⟩ : ∃ T2, Sh.t2 ⟨a, b', c, d, e, f, gg, hh⟩ = T2 := ⟨_, rfl⟩
      rw [hT1] at t1e
      rw [hT2] at t2e
      have s2 : IntKind.u32.wrap ((m2 : Int) + y1) = (T2 : Int) := by rw [t2e, IntKind.wrap_u32']; omega
      obtain ⟨N1, hN1⟩ : ∃ N1, (T1 + T2) % 4294967296 = N1 := ⟨_, rfl⟩
      obtain ⟨N2, hN2⟩ : ∃ N2, (d + T1) % 4294967296 = N2 := ⟨_, rfl⟩
      have o2' : bits .xor .u32 (if IntKind.u32.signed = true then -1 else IntKind.u32.max) (e : Int) = (z3 : Int) := o2
      have sT : ((hh : Int) + m1 + z1 + kn + wn) % 4294967296 = (T1 : Int) := by rw [t1e]; omega
      have s3 : ((T1 : Int) + T2) % 4294967296 = (N1 : Int) := by rw [← hN1]; omega
      have s4 : ((d : Int) + T1) % 4294967296 = (N2 : Int) := by rw [← hN2]; omega
      have hnew : (Sh.rnd ⟨a, b', c, d, e, f, gg, hh⟩ kn wn) = ⟨N1, a, b', c, N2, e, f, gg⟩ := by
        unfold Sh.rnd
        rw [hT1, hT2]
        simp only [hN1, hN2]
      have HN := Lib.hid (hst.trans hnew)
      clear t1e t2e hT1 hT2 hN1 hN2 hnew la lb lc ld le lf lg lh lK lL hst
      go_wp2_with fail
      go_quiet (first
        | (go_at_call 74; first
            | with_reducible exact Calls.quiet_of (r1 _)
            | with_reducible exact Calls.quiet_of (r2 _)
            | with_reducible exact Calls.quiet_of (r3 _)))
      have cK' : (wr.drewN nq).cell? ⟨gk, n, none⟩ = some (.int .u32 (kn : Int)) := cK
      go_wp2_with (first
            | ((with_reducible refine (r4 _).mono ?_); rintro e w5 ⟨rfl, n5, rfl⟩)
            | ((with_reducible refine (r5 _).mono ?_); rintro e w5 ⟨rfl, n6, rfl⟩)
            | ((with_reducible refine (r6 _).mono ?_); rintro e w5 ⟨rfl, n7, rfl⟩)
            | fail)
      go_roundw
      case rel =>
        refine ⟨n + 1, _, by omega, by go_num, by rw [HW.out, World.drewN_drewN], ?_, ?_, ?_, ?_, ?_, ?_, ?_, ?_⟩
        all_goals (rw [HN.out]; all_goals first | rfl | exact congrArg (Value.int .u32) s3 | exact congrArg (Value.int .u32) s4)
      case measure => simp [intOf]; omega
    · obtain rfl : n = 64 := by omega
      have hge : decide (((64 : Nat) : Int) < 64) = false := rfl
      have hfull : (K.zip L).take 64 = K.zip L := List.take_of_length_le (by rw [List.length_zip, HL.out.2.1, HL.out.2.2]; omega)
      rw [hfull]
      clear hfull hn
      have H5 := Lib.hid (show St lo w0 wr _ by rw [hw]; exact (H4.out.drewN m))
      have hT := Sh.rounds_ok (K.zip L) HS.out.1
      obtain ⟨T, hTe⟩ : ∃ T, Sh.rounds s (K.zip L) = T := ⟨_, rfl⟩
      rw [hTe] at hT ⊢
      have hbl : Sh.block s b = Sh.add8 s T := by unfold Sh.block; rw [HL.out.1.1, HL.out.1.2, hTe]
      have hsok := HS.out.1
      have q0 : wr.drew.cell? ⟨gv, 0, none⟩ = some (.int .u32 (s.a : Int)) := by rw [hw]; exact HB.out.2.2 0 (by decide)
      have q1 : wr.drew.cell? ⟨gv, 1, none⟩ = some (.int .u32 (s.b : Int)) := by rw [hw]; exact HB.out.2.2 1 (by decide)
      have q2 : wr.drew.cell? ⟨gv, 2, none⟩ = some (.int .u32 (s.c : Int)) := by rw [hw]; exact HB.out.2.2 2 (by decide)
      have q3 : wr.drew.cell? ⟨gv, 3, none⟩ = some (.int .u32 (s.d : Int)) := by rw [hw]; exact HB.out.2.2 3 (by decide)
      have q4 : wr.drew.cell? ⟨gv, 4, none⟩ = some (.int .u32 (s.e : Int)) := by rw [hw]; exact HB.out.2.2 4 (by decide)
      have q5 : wr.drew.cell? ⟨gv, 5, none⟩ = some (.int .u32 (s.f : Int)) := by rw [hw]; exact HB.out.2.2 5 (by decide)
      have q6 : wr.drew.cell? ⟨gv, 6, none⟩ = some (.int .u32 (s.g : Int)) := by rw [hw]; exact HB.out.2.2 6 (by decide)
      have q7 : wr.drew.cell? ⟨gv, 7, none⟩ = some (.int .u32 (s.h : Int)) := by rw [hw]; exact HB.out.2.2 7 (by decide)
      have ea : IntKind.u32.wrap ((s.a : Int) + (T.a : Int)) = (((s.a + T.a) % 4294967296 : Nat) : Int) := by rw [IntKind.wrap_u32']; omega
      generalize hha : (s.a + T.a) % 4294967296 = na at ea
      have eb : IntKind.u32.wrap ((s.b : Int) + (T.b : Int)) = (((s.b + T.b) % 4294967296 : Nat) : Int) := by rw [IntKind.wrap_u32']; omega
      generalize hhb : (s.b + T.b) % 4294967296 = nb at eb
      have ec : IntKind.u32.wrap ((s.c : Int) + (T.c : Int)) = (((s.c + T.c) % 4294967296 : Nat) : Int) := by rw [IntKind.wrap_u32']; omega
      generalize hhc : (s.c + T.c) % 4294967296 = nc at ec
      have ed : IntKind.u32.wrap ((s.d : Int) + (T.d : Int)) = (((s.d + T.d) % 4294967296 : Nat) : Int) := by rw [IntKind.wrap_u32']; omega
      generalize hhd : (s.d + T.d) % 4294967296 = nd at ed
      have ee : IntKind.u32.wrap ((s.e : Int) + (T.e : Int)) = (((s.e + T.e) % 4294967296 : Nat) : Int) := by rw [IntKind.wrap_u32']; omega
      generalize hhe : (s.e + T.e) % 4294967296 = ne at ee
      have ef : IntKind.u32.wrap ((s.f : Int) + (T.f : Int)) = (((s.f + T.f) % 4294967296 : Nat) : Int) := by rw [IntKind.wrap_u32']; omega
      generalize hhf : (s.f + T.f) % 4294967296 = nf at ef
      have eg : IntKind.u32.wrap ((s.g : Int) + (T.g : Int)) = (((s.g + T.g) % 4294967296 : Nat) : Int) := by rw [IntKind.wrap_u32']; omega
      generalize hhg : (s.g + T.g) % 4294967296 = ng at eg
      have eh : IntKind.u32.wrap ((s.h : Int) + (T.h : Int)) = (((s.h + T.h) % 4294967296 : Nat) : Int) := by rw [IntKind.wrap_u32']; omega
      generalize hhh : (s.h + T.h) % 4294967296 = nh at eh
      have hadd : Sh.add8 s T = ⟨na, nb, nc, nd, ne, nf, ng, nh⟩ := by unfold Sh.add8; rw [hha, hhb, hhc, hhd, hhe, hhf, hhg, hhh]
      have HQ := Lib.hid (hbl.trans hadd)
      clear hha hhb hhc hhd hhe hhf hhg hhh hadd hbl hTe hT hsok hw HB
      go_wp2_with fail
      refine wp_region_noPanic ?_
      refine wp_region_held_drew (S := fun w' => w'.cell? ⟨gv, 0, none⟩ = some (.int .u32 (s.a : Int)) ∧ w'.cell? ⟨gv, 1, none⟩ = some (.int .u32 (s.b : Int)) ∧ w'.cell? ⟨gv, 2, none⟩ = some (.int .u32 (s.c : Int)) ∧ w'.cell? ⟨gv, 3, none⟩ = some (.int .u32 (s.d : Int)) ∧ w'.cell? ⟨gv, 4, none⟩ = some (.int .u32 (s.e : Int)) ∧ w'.cell? ⟨gv, 5, none⟩ = some (.int .u32 (s.f : Int)) ∧ w'.cell? ⟨gv, 6, none⟩ = some (.int .u32 (s.g : Int)) ∧ w'.cell? ⟨gv, 7, none⟩ = some (.int .u32 (s.h : Int))) (by kernel_rfl) ⟨q0, q1, q2, q3, q4, q5, q6, q7⟩ (fun hHeld => ?_)
      refine wpAnyH_take (i := 0) (oi := ⟨some 110, _, _, _, _, _⟩) (v := ?_) rfl (by kernel_rfl) (by kernel_rfl) (by kernel_rfl) (fun _ _ _ h => h) (Or.inl ⟨by rfl, ?_⟩) hHeld ?_
      rotate_left 1
      · intro w hSw; go_simp; all_goals with_reducible rfl
      simp only [Act.put, List.setIfInBounds_toArray, List.set_cons_zero, List.set_cons_succ]
      refine wpAnyH_take (i := 1) (oi := ⟨some 111, _, _, _, _, _⟩) (v := ?_) rfl (by kernel_rfl) (by kernel_rfl) (by kernel_rfl) (fun _ _ _ h => h) (Or.inl ⟨by rfl, ?_⟩) hHeld ?_
      rotate_left 1
      · intro w hSw; go_simp; all_goals with_reducible rfl
      simp only [Act.put, List.setIfInBounds_toArray, List.set_cons_zero, List.set_cons_succ]
      refine wpAnyH_take (i := 2) (oi := ⟨some 112, _, _, _, _, _⟩) (v := ?_) rfl (by kernel_rfl) (by kernel_rfl) (by kernel_rfl) (fun _ _ _ h => h) (Or.inl ⟨by rfl, ?_⟩) hHeld ?_
      rotate_left 1
      · intro w hSw; go_simp; all_goals with_reducible rfl
      simp only [Act.put, List.setIfInBounds_toArray, List.set_cons_zero, List.set_cons_succ]
      refine wpAnyH_take (i := 3) (oi := ⟨some 113, _, _, _, _, _⟩) (v := ?_) rfl (by kernel_rfl) (by kernel_rfl) (by kernel_rfl) (fun _ _ _ h => h) (Or.inl ⟨by rfl, ?_⟩) hHeld ?_
      rotate_left 1
      · intro w hSw; go_simp; all_goals with_reducible rfl
      simp only [Act.put, List.setIfInBounds_toArray, List.set_cons_zero, List.set_cons_succ]
      refine wpAnyH_take (i := 4) (oi := ⟨some 114, _, _, _, _, _⟩) (v := ?_) rfl (by kernel_rfl) (by kernel_rfl) (by kernel_rfl) (fun _ _ _ h => h) (Or.inl ⟨by rfl, ?_⟩) hHeld ?_
      rotate_left 1
      · intro w hSw; go_simp; all_goals with_reducible rfl
      simp only [Act.put, List.setIfInBounds_toArray, List.set_cons_zero, List.set_cons_succ]
      refine wpAnyH_take (i := 5) (oi := ⟨some 115, _, _, _, _, _⟩) (v := ?_) rfl (by kernel_rfl) (by kernel_rfl) (by kernel_rfl) (fun _ _ _ h => h) (Or.inl ⟨by rfl, ?_⟩) hHeld ?_
      rotate_left 1
      · intro w hSw; go_simp; all_goals with_reducible rfl
      simp only [Act.put, List.setIfInBounds_toArray, List.set_cons_zero, List.set_cons_succ]
      refine wpAnyH_take (i := 6) (oi := ⟨some 116, _, _, _, _, _⟩) (v := ?_) rfl (by kernel_rfl) (by kernel_rfl) (by kernel_rfl) (fun _ _ _ h => h) (Or.inl ⟨by rfl, ?_⟩) hHeld ?_
      rotate_left 1
      · intro w hSw; go_simp; all_goals with_reducible rfl
      simp only [Act.put, List.setIfInBounds_toArray, List.set_cons_zero, List.set_cons_succ]
      refine wpAnyH_take (i := 7) (oi := ⟨some 117, _, _, _, _, _⟩) (v := ?_) rfl (by kernel_rfl) (by kernel_rfl) (by kernel_rfl) (fun _ _ _ h => h) (Or.inl ⟨by rfl, ?_⟩) hHeld ?_
      rotate_left 1
      · intro w hSw; go_simp; all_goals with_reducible rfl
      simp only [Act.put, List.setIfInBounds_toArray, List.set_cons_zero, List.set_cons_succ]
      refine wpAnyH_take (i := 8) (oi := ⟨some 118, _, _, _, _, _⟩) (v := ?_) rfl (by kernel_rfl) (by kernel_rfl) (by kernel_rfl) (fun _ _ _ h => h) (Or.inl ⟨by rfl, ?_⟩) hHeld ?_
      rotate_left 1
      · intro w hSw; go_simp; all_goals with_reducible rfl
      simp only [Act.put, List.setIfInBounds_toArray, List.set_cons_zero, List.set_cons_succ]
      refine wpAnyH_take (i := 9) (oi := ⟨some 119, _, _, _, _, _⟩) (v := ?_) rfl (by kernel_rfl) (by kernel_rfl) (by kernel_rfl) (fun _ _ _ h => h) (Or.inl ⟨by rfl, ?_⟩) hHeld ?_
      rotate_left 1
      · intro w hSw; go_simp; all_goals with_reducible rfl
      simp only [Act.put, List.setIfInBounds_toArray, List.set_cons_zero, List.set_cons_succ]
      refine wpAnyH_take (i := 10) (oi := ⟨some 120, _, _, _, _, _⟩) (v := ?_) rfl (by kernel_rfl) (by kernel_rfl) (by kernel_rfl) (fun _ _ _ h => h) (Or.inl ⟨by rfl, ?_⟩) hHeld ?_
      rotate_left 1
      · intro w hSw; go_simp; all_goals with_reducible rfl
      simp only [Act.put, List.setIfInBounds_toArray, List.set_cons_zero, List.set_cons_succ]
      refine wpAnyH_take (i := 11) (oi := ⟨some 121, _, _, _, _, _⟩) (v := ?_) rfl (by kernel_rfl) (by kernel_rfl) (by kernel_rfl) (fun _ _ _ h => h) (Or.inl ⟨by rfl, ?_⟩) hHeld ?_
      rotate_left 1
      · intro w hSw; go_simp; all_goals with_reducible rfl
      simp only [Act.put, List.setIfInBounds_toArray, List.set_cons_zero, List.set_cons_succ]
      refine wpAnyH_take (i := 12) (oi := ⟨some 122, _, _, _, _, _⟩) (v := ?_) rfl (by kernel_rfl) (by kernel_rfl) (by kernel_rfl) (fun _ _ _ h => h) (Or.inl ⟨by rfl, ?_⟩) hHeld ?_
      rotate_left 1
      · intro w hSw; go_simp; all_goals with_reducible rfl
      simp only [Act.put, List.setIfInBounds_toArray, List.set_cons_zero, List.set_cons_succ]
      refine wpAnyH_take (i := 13) (oi := ⟨some 123, _, _, _, _, _⟩) (v := ?_) rfl (by kernel_rfl) (by kernel_rfl) (by kernel_rfl) (fun _ _ _ h => h) (Or.inl ⟨by rfl, ?_⟩) hHeld ?_
      rotate_left 1
      · intro w hSw; go_simp; all_goals with_reducible rfl
      simp only [Act.put, List.setIfInBounds_toArray, List.set_cons_zero, List.set_cons_succ]
      refine wpAnyH_take (i := 14) (oi := ⟨some 124, _, _, _, _, _⟩) (v := ?_) rfl (by kernel_rfl) (by kernel_rfl) (by kernel_rfl) (fun _ _ _ h => h) (Or.inl ⟨by rfl, ?_⟩) hHeld ?_
      rotate_left 1
      · intro w hSw; go_simp; all_goals with_reducible rfl
      simp only [Act.put, List.setIfInBounds_toArray, List.set_cons_zero, List.set_cons_succ]
      refine wpAnyH_take (i := 15) (oi := ⟨some 125, _, _, _, _, _⟩) (v := ?_) rfl (by kernel_rfl) (by kernel_rfl) (by kernel_rfl) (fun _ _ _ h => h) (Or.inl ⟨by rfl, ?_⟩) hHeld ?_
      rotate_left 1
      · intro w hSw; go_simp; all_goals with_reducible rfl
      simp only [Act.put, List.setIfInBounds_toArray, List.set_cons_zero, List.set_cons_succ]
      refine wpAnyH_take (i := 16) (oi := ⟨some 126, _, _, _, _, _⟩) (v := ?_) rfl (by kernel_rfl) (by kernel_rfl) (by kernel_rfl) (fun _ _ _ h => h) (Or.inl ⟨by rfl, ?_⟩) hHeld ?_
      rotate_left 1
      · intro w hSw; go_simp; all_goals with_reducible rfl
      simp only [Act.put, List.setIfInBounds_toArray, List.set_cons_zero, List.set_cons_succ]
      refine wpAnyH_take (i := 17) (oi := ⟨some 127, _, _, _, _, _⟩) (v := ?_) rfl (by kernel_rfl) (by kernel_rfl) (by kernel_rfl) (fun _ _ _ h => h) (Or.inl ⟨by rfl, ?_⟩) hHeld ?_
      rotate_left 1
      · intro w hSw; go_simp; all_goals with_reducible rfl
      simp only [Act.put, List.setIfInBounds_toArray, List.set_cons_zero, List.set_cons_succ]
      refine wpAnyH_take (i := 18) (oi := ⟨some 128, _, _, _, _, _⟩) (v := ?_) rfl (by kernel_rfl) (by kernel_rfl) (by kernel_rfl) (fun _ _ _ h => h) (Or.inl ⟨by rfl, ?_⟩) hHeld ?_
      rotate_left 1
      · intro w hSw; go_simp; all_goals with_reducible rfl
      simp only [Act.put, List.setIfInBounds_toArray, List.set_cons_zero, List.set_cons_succ]
      refine wpAnyH_take (i := 19) (oi := ⟨some 129, _, _, _, _, _⟩) (v := ?_) rfl (by kernel_rfl) (by kernel_rfl) (by kernel_rfl) (fun _ _ _ h => h) (Or.inl ⟨by rfl, ?_⟩) hHeld ?_
      rotate_left 1
      · intro w hSw; go_simp; all_goals with_reducible rfl
      simp only [Act.put, List.setIfInBounds_toArray, List.set_cons_zero, List.set_cons_succ]
      refine wpAnyH_take (i := 20) (oi := ⟨some 130, _, _, _, _, _⟩) (v := ?_) rfl (by kernel_rfl) (by kernel_rfl) (by kernel_rfl) (fun _ _ _ h => h) (Or.inl ⟨by rfl, ?_⟩) hHeld ?_
      rotate_left 1
      · intro w hSw; go_simp; all_goals with_reducible rfl
      simp only [Act.put, List.setIfInBounds_toArray, List.set_cons_zero, List.set_cons_succ]
      refine wpAnyH_take (i := 21) (oi := ⟨some 131, _, _, _, _, _⟩) (v := ?_) rfl (by kernel_rfl) (by kernel_rfl) (by kernel_rfl) (fun _ _ _ h => h) (Or.inl ⟨by rfl, ?_⟩) hHeld ?_
      rotate_left 1
      · intro w hSw; go_simp; all_goals with_reducible rfl
      simp only [Act.put, List.setIfInBounds_toArray, List.set_cons_zero, List.set_cons_succ]
      refine wpAnyH_take (i := 22) (oi := ⟨some 132, _, _, _, _, _⟩) (v := ?_) rfl (by kernel_rfl) (by kernel_rfl) (by kernel_rfl) (fun _ _ _ h => h) (Or.inl ⟨by rfl, ?_⟩) hHeld ?_
      rotate_left 1
      · intro w hSw; go_simp; all_goals with_reducible rfl
      simp only [Act.put, List.setIfInBounds_toArray, List.set_cons_zero, List.set_cons_succ]
      refine wpAnyH_take (i := 23) (oi := ⟨some 133, _, _, _, _, _⟩) (v := ?_) rfl (by kernel_rfl) (by kernel_rfl) (by kernel_rfl) (fun _ _ _ h => h) (Or.inl ⟨by rfl, ?_⟩) hHeld ?_
      rotate_left 1
      · intro w hSw; go_simp; all_goals with_reducible rfl
      simp only [Act.put, List.setIfInBounds_toArray, List.set_cons_zero, List.set_cons_succ]
      refine wpAnyH_take (i := 24) (oi := ⟨some 134, _, _, _, _, _⟩) (v := ?_) rfl (by kernel_rfl) (by kernel_rfl) (by kernel_rfl) (fun _ _ _ h => h) (Or.inl ⟨by rfl, ?_⟩) hHeld ?_
      rotate_left 1
      · intro w hSw; go_simp; all_goals with_reducible rfl
      simp only [Act.put, List.setIfInBounds_toArray, List.set_cons_zero, List.set_cons_succ]
      refine wpAnyH_take (i := 25) (oi := ⟨some 135, _, _, _, _, _⟩) (v := ?_) rfl (by kernel_rfl) (by kernel_rfl) (by kernel_rfl) (fun _ _ _ h => h) (Or.inl ⟨by rfl, ?_⟩) hHeld ?_
      rotate_left 1
      · intro w hSw; go_simp; all_goals with_reducible rfl
      simp only [Act.put, List.setIfInBounds_toArray, List.set_cons_zero, List.set_cons_succ]
      refine wpAnyH_take (i := 26) (oi := ⟨some 136, _, _, _, _, _⟩) (v := ?_) rfl (by kernel_rfl) (by kernel_rfl) (by kernel_rfl) (fun _ _ _ h => h) (Or.inl ⟨by rfl, ?_⟩) hHeld ?_
      rotate_left 1
      · intro w hSw; go_simp; all_goals with_reducible rfl
      simp only [Act.put, List.setIfInBounds_toArray, List.set_cons_zero, List.set_cons_succ]
      refine wpAnyH_take (i := 27) (oi := ⟨some 137, _, _, _, _, _⟩) (v := ?_) rfl (by kernel_rfl) (by kernel_rfl) (by kernel_rfl) (fun _ _ _ h => h) (Or.inl ⟨by rfl, ?_⟩) hHeld ?_
      rotate_left 1
      · intro w hSw; go_simp; all_goals with_reducible rfl
      simp only [Act.put, List.setIfInBounds_toArray, List.set_cons_zero, List.set_cons_succ]
      refine wpAnyH_take (i := 28) (oi := ⟨some 138, _, _, _, _, _⟩) (v := ?_) rfl (by kernel_rfl) (by kernel_rfl) (by kernel_rfl) (fun _ _ _ h => h) (Or.inl ⟨by rfl, ?_⟩) hHeld ?_
      rotate_left 1
      · intro w hSw; go_simp; all_goals with_reducible rfl
      simp only [Act.put, List.setIfInBounds_toArray, List.set_cons_zero, List.set_cons_succ]
      refine wpAnyH_take (i := 29) (oi := ⟨some 139, _, _, _, _, _⟩) (v := ?_) rfl (by kernel_rfl) (by kernel_rfl) (by kernel_rfl) (fun _ _ _ h => h) (Or.inl ⟨by rfl, ?_⟩) hHeld ?_
      rotate_left 1
      · intro w hSw; go_simp; all_goals with_reducible rfl
      simp only [Act.put, List.setIfInBounds_toArray, List.set_cons_zero, List.set_cons_succ]
      refine wpAnyH_take (i := 30) (oi := ⟨some 140, _, _, _, _, _⟩) (v := ?_) rfl (by kernel_rfl) (by kernel_rfl) (by kernel_rfl) (fun _ _ _ h => h) (Or.inl ⟨by rfl, ?_⟩) hHeld ?_
      rotate_left 1
      · intro w hSw; go_simp; all_goals with_reducible rfl
      simp only [Act.put, List.setIfInBounds_toArray, List.set_cons_zero, List.set_cons_succ]
      refine wpAnyH_take (i := 31) (oi := ⟨some 141, _, _, _, _, _⟩) (v := ?_) rfl (by kernel_rfl) (by kernel_rfl) (by kernel_rfl) (fun _ _ _ h => h) (Or.inl ⟨by rfl, ?_⟩) hHeld ?_
      rotate_left 1
      · intro w hSw; go_simp; all_goals with_reducible rfl
      simp only [Act.put, List.setIfInBounds_toArray, List.set_cons_zero, List.set_cons_succ]
      refine wpAnyH_take (i := 32) (oi := ⟨some 142, _, _, _, _, _⟩) (v := ?_) rfl (by kernel_rfl) (by kernel_rfl) (by kernel_rfl) (fun _ _ _ h => h) (Or.inl ⟨by rfl, ?_⟩) hHeld ?_
      rotate_left 1
      · intro w hSw; go_simp; all_goals with_reducible rfl
      simp only [Act.put, List.setIfInBounds_toArray, List.set_cons_zero, List.set_cons_succ]
      refine wpAnyH_take (i := 33) (oi := ⟨some 143, _, _, _, _, _⟩) (v := ?_) rfl (by kernel_rfl) (by kernel_rfl) (by kernel_rfl) (fun _ _ _ h => h) (Or.inl ⟨by rfl, ?_⟩) hHeld ?_
      rotate_left 1
      · intro w hSw; go_simp; all_goals with_reducible rfl
      simp only [Act.put, List.setIfInBounds_toArray, List.set_cons_zero, List.set_cons_succ]
      refine wpAnyH_take (i := 34) (oi := ⟨some 144, _, _, _, _, _⟩) (v := ?_) rfl (by kernel_rfl) (by kernel_rfl) (by kernel_rfl) (fun _ _ _ h => h) (Or.inl ⟨by rfl, ?_⟩) hHeld ?_
      rotate_left 1
      · intro w hSw; go_simp; all_goals with_reducible rfl
      simp only [Act.put, List.setIfInBounds_toArray, List.set_cons_zero, List.set_cons_succ]
      refine wpAnyH_take (i := 35) (oi := ⟨some 145, _, _, _, _, _⟩) (v := ?_) rfl (by kernel_rfl) (by kernel_rfl) (by kernel_rfl) (fun _ _ _ h => h) (Or.inl ⟨by rfl, ?_⟩) hHeld ?_
      rotate_left 1
      · intro w hSw; go_simp; all_goals with_reducible rfl
      simp only [Act.put, List.setIfInBounds_toArray, List.set_cons_zero, List.set_cons_succ]
      refine wpAnyH_take (i := 36) (oi := ⟨some 146, _, _, _, _, _⟩) (v := ?_) rfl (by kernel_rfl) (by kernel_rfl) (by kernel_rfl) (fun _ _ _ h => h) (Or.inl ⟨by rfl, ?_⟩) hHeld ?_
      rotate_left 1
      · intro w hSw; go_simp; all_goals with_reducible rfl
      simp only [Act.put, List.setIfInBounds_toArray, List.set_cons_zero, List.set_cons_succ]
      refine wpAnyH_take (i := 37) (oi := ⟨some 147, _, _, _, _, _⟩) (v := ?_) rfl (by kernel_rfl) (by kernel_rfl) (by kernel_rfl) (fun _ _ _ h => h) (Or.inl ⟨by rfl, ?_⟩) hHeld ?_
      rotate_left 1
      · intro w hSw; go_simp; all_goals with_reducible rfl
      simp only [Act.put, List.setIfInBounds_toArray, List.set_cons_zero, List.set_cons_succ]
      refine wpAnyH_take (i := 38) (oi := ⟨some 148, _, _, _, _, _⟩) (v := ?_) rfl (by kernel_rfl) (by kernel_rfl) (by kernel_rfl) (fun _ _ _ h => h) (Or.inl ⟨by rfl, ?_⟩) hHeld ?_
      rotate_left 1
      · intro w hSw; go_simp; all_goals with_reducible rfl
      simp only [Act.put, List.setIfInBounds_toArray, List.set_cons_zero, List.set_cons_succ]
      refine wpAnyH_take (i := 39) (oi := ⟨some 149, _, _, _, _, _⟩) (v := ?_) rfl (by kernel_rfl) (by kernel_rfl) (by kernel_rfl) (fun _ _ _ h => h) (Or.inl ⟨by rfl, ?_⟩) hHeld ?_
      rotate_left 1
      · intro w hSw; go_simp; all_goals with_reducible rfl
      simp only [Act.put, List.setIfInBounds_toArray, List.set_cons_zero, List.set_cons_succ]
      refine wpAnyH_ready (rs := [40]) (by kernel_rfl) (by simp) ?_
      refine AllReadyH.cons (o := ⟨some 150, _, _, _, _, _⟩) rfl (fun K hK => ?_) AllReadyH.nil
      go_simp
      have HB2 := (H5.out.drew).new_own (e := 62) (size := 1) ((Below.refl _ wr.drew).alloc (Nat.le_refl _) (.cells (arr [na, nb, nc, nd, ne, nf, ng, nh]) 62)) (World.ownsRow_lit wr.drew (arr [na, nb, nc, nd, ne, nf, ng, nh]) 8 (Nat.le_refl _) (by decide) rfl)
      have BA := (Below.refl wr.drew.heap.size wr.drew).alloc (Nat.le_refl _) (.cells (arr [na, nb, nc, nd, ne, nf, ng, nh]) 62)
      refine hK.out _ _ ⟨below_cell BA q0, below_cell BA q1, below_cell BA q2, below_cell BA q3, below_cell BA q4, below_cell BA q5, below_cell BA q6, below_cell BA q7⟩ (fun hHeld2 => ?_)
      clear hK K BA
      have HB3 := Lib.hid (HB2.swap.tail.swap.tail)
      try simp only [Act.put, List.setIfInBounds_toArray, List.set_cons_zero, List.set_cons_succ]
      refine wpAnyH_take (i := 41) (oi := ⟨some 4, _, _, _, _, _⟩) (v := ?_) rfl (by kernel_rfl) (by kernel_rfl) (by kernel_rfl) (fun _ _ _ h => h) (Or.inl ⟨by rfl, ?_⟩) hHeld2 ?_
      rotate_left 1
      · intro w hSw; go_simp; all_goals with_reducible rfl
      simp only [Act.put, List.setIfInBounds_toArray, List.set_cons_zero, List.set_cons_succ]
      refine wpAnyH_done (by kernel_rfl) ?_ _
      refine NoPanic.normal ?_
      clear hHeld hHeld2 q0 q1 q2 q3 q4 q5 q6 q7
      go_wp2
      go_ret
      refine ⟨_, rfl, ?_⟩
      rw [HQ.out]
      exact HB3.out
end Go.Proofs.Ytiklfjehhdbhfaa
