/-
  Consistency proofs verified. Conditions: at most 2^40 leaves.
-/
import Derived.Test.YtiklfjehhdbhfaaMkH
import Derived.StillTailTactics
namespace Go.Proofs.Ytiklfjehhdbhfaa
set_option linter.unusedVariables false
open Go.RowKit

def RpP (x : (Mk.Str × Mk.Str) × Bool) (w : World) (e : Ending) (w' : World) : Prop := e = .returned (.tuple #[.agg #[.string ⟨x.1.1.toArray⟩, .string ⟨x.1.2.toArray⟩], .bool x.2]) ∧ Below w.heap.size w w'
set_option maxRecDepth 20000 in
set_option maxHeartbeats 4000000 in
theorem read_spec : ∀ (n : Nat) (A : Option Addr) (P : List Mk.Str) (x : Mk.Str) (m c : Nat) (w : World), 1 ≤ m → m ≤ n → n ≤ 1099511627776 → Rd w A (strs P) → P.length ≤ c → c ≤ maxLen →
    Calls Try.prog 50 #[.int .i64 (m : Int), .int .i64 (n : Int), .string ⟨x.toArray⟩, .slice A P.length c] w (RpP (Mk.rd m n x P) w) := by
  intro n
  induction n using Nat.strongRecOn with
  | _ n ih =>
    intro A P x m c w h1 hmn hn hR hc hm
    unfold maxLen at hm
    by_cases hmN : m = n
    · subst hmN
      rw [Mk.rd_same]
      by_cases hx : x = []
      · subst hx
        rw [if_neg (by simp)]
        by_cases hP : P.length = 1
        · rw [if_neg (by omega)]
          obtain ⟨q, rfl⟩ := List.length_eq_one_iff.1 hP
          obtain ⟨b, off, hA, hcc⟩ := hR.str (k := 0) (by simp)
          subst hA
          rw [Nat.add_zero] at hcc
          have hcc : w.cell? ⟨b, off, none⟩ = some (.string ⟨q.toArray⟩) := hcc
          have hw2 : (w.alloc (.cells #[.string ⟨#[]⟩, .string ⟨#[]⟩] 58)).cell? ⟨b, off, none⟩ = some (.string ⟨q.toArray⟩) := below_cell ((Below.refl _ w).alloc (Nat.le_refl _) _) hcc
          show Calls _ _ _ _ (RpP ((q, q), true) w)
          have e1 : ([q] : List Mk.Str).length = 1 := rfl
          rw [e1] at hc ⊢
          clear hR ih e1 hP
          have hs := (St.nil w).alloc 58 #[.string ⟨#[]⟩, .string ⟨#[]⟩]
          go_enter Try.func50, Try.ntmps50
          go_wp2_with fail
          generalize hgg : w.heap.size = g at hs ⊢
          have hs : St w.heap.size w (w.alloc (.cells #[.string ⟨#[]⟩, .string ⟨#[]⟩] 58)) [cellsR g 58 #[.string ⟨#[]⟩, .string ⟨#[]⟩]] := by rw [hgg]; exact hs
          have HGG := Lib.hid hgg
          clear hgg
          generalize w.alloc (.cells #[.string ⟨#[]⟩, .string ⟨#[]⟩] 58) = W at hs hw2 ⊢
          have u0 := hs.blk.cell 0
          have u1 := hs.blk.cell 1
          have u2 := hs.blk.frozen 0
          have u3 := hs.blk.frozen 1
          have u4 := hs.blk.lt
          go_still_tail 7, (by kernel_rfl)
          have s5 := ((hs.drew).set_ 0 (.string ⟨q.toArray⟩)).set_ 1 (.string ⟨q.toArray⟩)
          have y0 : (W.setCell ⟨g, 0, none⟩ (.string ⟨q.toArray⟩)).cell? ⟨g, 0, none⟩ = some (.string ⟨q.toArray⟩) := (hs.set_ 0 (.string ⟨q.toArray⟩)).blk.cell 0
          have y1 : ((W.setCell ⟨g, 0, none⟩ (.string ⟨q.toArray⟩)).setCell ⟨g, 1, none⟩ (.string ⟨q.toArray⟩)).cell? ⟨g, 1, none⟩ = some (.string ⟨q.toArray⟩) := ((hs.set_ 0 (.string ⟨q.toArray⟩)).set_ 1 (.string ⟨q.toArray⟩)).blk.cell 1
          change wpList _ _ _ _ _ W.drew
          go_wp2
          exact bodyPost_ret (v := .tuple #[.agg #[.string ⟨q.toArray⟩, .string ⟨q.toArray⟩], .bool true]) (by simp [results, Try.results50, go_sem, y0, y1]) rfl ⟨rfl, s5.below⟩
        · rw [if_pos hP]
          have g0 : ((P.length : Int) != 1) = true := by simp; omega
          clear hR ih
          go_enter Try.func50, Try.ntmps50
          go_wp2
          exact bodyPost_ret (v := .tuple #[.agg #[.string ⟨#[]⟩, .string ⟨#[]⟩], .bool false]) (by simp [results, Try.results50, go_sem]) rfl ⟨rfl, (Below.refl _ w).alloc (Nat.le_refl _) _⟩
      · rw [if_pos hx, isEmpty_len]
        have g0 : (x == []) = false := by simpa using hx
        clear hR ih
        go_enter Try.func50, Try.ntmps50
        go_wp2
        exact bodyPost_ret (v := .tuple #[.agg #[.string ⟨x.toArray⟩, .string ⟨x.toArray⟩], .bool ((P.length : Int) == 0)]) (by simp [results, Try.results50, go_sem]) rfl ⟨rfl, (Below.refl _ w).alloc (Nat.le_refl _) _⟩
    have g1 : ((m : Int) == (n : Int)) = false := by rw [beq_eq_false_iff_ne]; omega
    rcases Mk.snoc_cases P with rfl | ⟨Q, q, rfl⟩
    · rw [Mk.rd_nil m n x (by omega) hmN]
      clear hR ih
      go_enter Try.func50, Try.ntmps50
      go_wp2
      exact bodyPost_ret (v := .tuple #[.agg #[.string ⟨#[]⟩, .string ⟨#[]⟩], .bool false]) (by simp [results, Try.results50, go_sem]) rfl ⟨rfl, (Below.refl _ w).alloc (Nat.le_refl _) _⟩
    · have hlen : (Q ++ [q]).length = Q.length + 1 := by simp
      obtain ⟨b, off, hA, hcc0⟩ := hR.str (k := Q.length) (by rw [hlen]; omega)
      subst hA
      have hq : (Q ++ [q])[Q.length]'(by rw [hlen]; omega) = q := by simp
      have hcc : w.cell? ⟨b, off + Q.length, none⟩ = some (.string ⟨q.toArray⟩) := by
        rw [hcc0]; congr 3; exact congrArg List.toArray hq
      clear hcc0
      have hRQ : Rd w (some ⟨b, off, none⟩) (strs Q) := by
        have := rd_take hR Q.length
        rwa [List.take_left] at this
      rw [hlen] at hc ⊢
      have ks := fun W => (split_spec n (by omega) hn W).mono (fun e w' h => And.intro h.1 h.2.symm)
      have hk0 := Mk.split_pos n
      have hk1 := Mk.split_lt (n := n) (by omega)
      have hgl := Mk.rd_left m n x Q q (by omega) hmN
      have hgr := Mk.rd_right m n x Q q (by omega) hmN
      obtain ⟨k, hk⟩ : ∃ k, Mk.split n = k := ⟨_, rfl⟩
      rw [hk] at ks hk0 hk1 hgl hgr
      obtain ⟨N, hN⟩ : ∃ N, Q.length = N := ⟨_, rfl⟩
      have kL : m ≤ k → ∀ W, Below w.heap.size w W → Calls Try.prog 50 #[.int .i64 (m : Int), .int .i64 (k : Int), .string ⟨x.toArray⟩, .slice (some ⟨b, off, none⟩) N c] W (RpP (Mk.rd m k x Q) W) := fun hik W hb => by
        have := ih k hk1 (some ⟨b, off, none⟩) Q x m c W h1 hik (by omega) (hRQ.below hb) (by omega) (by unfold maxLen; omega)
        rwa [hN] at this
      have kR : ¬ m ≤ k → ∀ W, Below w.heap.size w W → Calls Try.prog 50 #[.int .i64 ((m - k : Nat) : Int), .int .i64 ((n - k : Nat) : Int), .string .empty, .slice (some ⟨b, off, none⟩) N c] W (RpP (Mk.rd (m - k) (n - k) [] Q) W) := fun hik W hb => by
        have := ih (n - k) (by omega) (some ⟨b, off, none⟩) Q [] (m - k) c W (by omega) (by omega) (by omega) (hRQ.below hb) (by omega) (by unfold maxLen; omega)
        rwa [hN] at this
      rw [hN] at hcc hc ⊢
      have HX := Lib.hid (And.intro hN (And.intro hk (And.intro hR hRQ)))
      clear hR hRQ hN hk ih hq hlen
      have p0 : (((N + 1 : Nat) : Int) == 0) = false := by rw [beq_eq_false_iff_ne]; omega
      have p00 : ((N : Int) + 1 == 0) = false := by rw [beq_eq_false_iff_ne]; omega
      have p1 : IntKind.i64.wrap (N : Int) = (N : Int) := by rw [IntWalk.i64_left, IntWalk.wrap64_in _ (by omega)]
      have p2 : (0 : Int) ≤ (N : Int) := by omega
      have p3 : (N : Int) < (N : Int) + 1 := by omega
      have p4 : (N : Int) ≤ (c : Int) := by omega
      have p5 : (N : Int) + 1 ≤ (c : Int) := by omega
      by_cases hik : m ≤ k
      · have g2 : decide ((m : Int) ≤ (k : Int)) = true := by simp; omega
        have hg := hgl hik
        have k2 := kL hik
        clear hgl hgr kL kR
        rw [hg]
        generalize Mk.rd m k x Q = G at k2 ⊢
        obtain ⟨⟨O, W9⟩, ok⟩ := G
        have k3 := fun W => node_spec W9 q W
        show Calls _ _ _ _ (RpP ((O, Mk.node W9 q), ok) w)
        generalize Mk.node W9 q = R2 at k3 ⊢
        go_enter Try.func50, Try.ntmps50
        have s0 := (St.nil w).alloc 58 #[.string ⟨#[]⟩, .string ⟨#[]⟩]
        have ccA : (w.alloc (.cells #[.string ⟨#[]⟩, .string ⟨#[]⟩] 58)).cell? ⟨b, off + N, none⟩ = some (.string ⟨q.toArray⟩) := below_cell ((Below.refl _ w).alloc (Nat.le_refl _) _) hcc
        go_wp2_with fail
        generalize hgg : w.heap.size = g at s0 ⊢
        have s0 : St w.heap.size w (w.alloc (.cells #[.string ⟨#[]⟩, .string ⟨#[]⟩] 58)) [cellsR g 58 #[.string ⟨#[]⟩, .string ⟨#[]⟩]] := by rw [hgg]; exact s0
        have HGG := Lib.hid hgg
        clear hgg
        generalize w.alloc (.cells #[.string ⟨#[]⟩, .string ⟨#[]⟩] 58) = W at s0 ccA ⊢
        go_quiet (first | (go_at_call 56; with_reducible exact Calls.quiet_of_same (ks _)))
        have s1 := s0.drewN nq
        clear s0
        generalize W.drewN nq = W1 at s1 ⊢
        go_wp2_with fail
        refine (k2 _ s1.below).mono ?_
        rintro e w1 ⟨rfl, b1⟩
        have s2 := s1.under b1
        clear s1
        have s3 := s2.alloc 58 #[.string ⟨O.toArray⟩, .string ⟨W9.toArray⟩]
        go_wp2_with fail
        generalize w1.heap.size = h at s3 ⊢
        generalize w1.alloc (.cells #[.string ⟨O.toArray⟩, .string ⟨W9.toArray⟩] 58) = W2 at s3 ⊢
        have hneq : h ≠ g := by
          obtain ⟨F, G, f1, f2, _, _, f3, _⟩ := s3.open2
          obtain ⟨_, rfl⟩ := f1
          obtain ⟨_, rfl⟩ := f2
          exact fun e => f3 h rfl e
        have e0 : W2.drew.cell? ⟨h, 0, none⟩ = some (.string ⟨O.toArray⟩) := s3.blk.cell 0
        have e1 : W2.drew.cell? ⟨h, 1, none⟩ = some (.string ⟨W9.toArray⟩) := s3.blk.cell 1
        have s4 := s3.drew
        have t4 := s4.swap
        have u0 := t4.blk.cell 0
        have u1 := t4.blk.cell 1
        have u2 := t4.blk.frozen 0
        have u3 := t4.blk.frozen 1
        have u4 := t4.blk.lt
        clear s3 s2
        go_region_held3 (fun w' => w'.cell? ⟨h, 0, none⟩ = some (.string ⟨O.toArray⟩) ∧ w'.cell? ⟨h, 1, none⟩ = some (.string ⟨W9.toArray⟩))
          (first
            | exact ⟨e0, e1⟩
            | exact ⟨below_cell b3 e0, below_cell b3 e1⟩
            | exact ⟨z0, z1⟩
            | fail)
          (first
            | (with_reducible refine (k3 _).mono ?_
               rintro e w3 ⟨rfl, b3⟩
               have v0 : w3.cell? ⟨g, 0, none⟩ = some (.string ⟨#[]⟩) := below_cell b3 u0
               have v1 : w3.cell? ⟨g, 1, none⟩ = some (.string ⟨#[]⟩) := below_cell b3 u1
               have v2 : w3.frozen? ⟨g, 0, none⟩ = false := (b3.frozen (p := ⟨g, 0, none⟩) u4).trans u2
               have v3 : w3.frozen? ⟨g, 1, none⟩ = false := (b3.frozen (p := ⟨g, 1, none⟩) u4).trans u3
               have v4 : g < w3.heap.size := Nat.lt_of_lt_of_le u4 b3.size
               have z0 : ((w3.setCell ⟨g, 0, none⟩ (.string ⟨O.toArray⟩)).setCell ⟨g, 1, none⟩ (.string ⟨R2.toArray⟩)).cell? ⟨h, 0, none⟩ = some (.string ⟨O.toArray⟩) := by
                 rw [World.cell?_setCell_far _ _ _ _ (Ne.symm hneq), World.cell?_setCell_far _ _ _ _ (Ne.symm hneq)]
                 exact below_cell b3 e0
               have z1 : ((w3.setCell ⟨g, 0, none⟩ (.string ⟨O.toArray⟩)).setCell ⟨g, 1, none⟩ (.string ⟨R2.toArray⟩)).cell? ⟨h, 1, none⟩ = some (.string ⟨W9.toArray⟩) := by
                 rw [World.cell?_setCell_far _ _ _ _ (Ne.symm hneq), World.cell?_setCell_far _ _ _ _ (Ne.symm hneq)]
                 exact below_cell b3 e1)
            | fail)
        all_goals
          have s5 := ((t4.under b3).set_ 0 (.string ⟨O.toArray⟩)).set_ 1 (.string ⟨R2.toArray⟩)
          have y0 := s5.blk.cell 0
          have y1 := s5.blk.cell 1
          simp at y0 y1
          go_wp2
          exact bodyPost_ret (v := .tuple #[.agg #[.string ⟨O.toArray⟩, .string ⟨R2.toArray⟩], .bool ok]) (by simp [results, Try.results50, go_sem, y0, y1]) rfl ⟨rfl, s5.below⟩
      · have g2 : decide ((m : Int) ≤ (k : Int)) = false := by simp; omega
        have hg := hgr hik
        have k2 := kR hik
        clear hgl hgr kL kR
        rw [hg]
        generalize Mk.rd (m - k) (n - k) [] Q = G at k2 ⊢
        obtain ⟨⟨O, W9⟩, ok⟩ := G
        have k3 := fun W => node_spec q O W
        have k4 := fun W => node_spec q W9 W
        show Calls _ _ _ _ (RpP ((Mk.node q O, Mk.node q W9), ok) w)
        generalize Mk.node q O = R1 at k3 ⊢
        generalize Mk.node q W9 = R2 at k4 ⊢
        have j1 : (m : Int) - (k : Int) = ((m - k : Nat) : Int) := by omega
        have j2 : (n : Int) - (k : Int) = ((n - k : Nat) : Int) := by omega
        generalize m - k = m' at k2 j1
        generalize n - k = n' at k2 j2
        go_enter Try.func50, Try.ntmps50
        have s0 := (St.nil w).alloc 58 #[.string ⟨#[]⟩, .string ⟨#[]⟩]
        have ccA : (w.alloc (.cells #[.string ⟨#[]⟩, .string ⟨#[]⟩] 58)).cell? ⟨b, off + N, none⟩ = some (.string ⟨q.toArray⟩) := below_cell ((Below.refl _ w).alloc (Nat.le_refl _) _) hcc
        go_wp2_with fail
        generalize hgg : w.heap.size = g at s0 ⊢
        have s0 : St w.heap.size w (w.alloc (.cells #[.string ⟨#[]⟩, .string ⟨#[]⟩] 58)) [cellsR g 58 #[.string ⟨#[]⟩, .string ⟨#[]⟩]] := by rw [hgg]; exact s0
        have HGG := Lib.hid hgg
        clear hgg
        generalize w.alloc (.cells #[.string ⟨#[]⟩, .string ⟨#[]⟩] 58) = W at s0 ccA ⊢
        go_quiet (first | (go_at_call 56; with_reducible exact Calls.quiet_of_same (ks _)))
        have s1 := s0.drewN nq
        clear s0
        generalize W.drewN nq = W1 at s1 ⊢
        go_wp2_with fail
        refine (k2 _ s1.below).mono ?_
        rintro e w1 ⟨rfl, b1⟩
        have s2 := s1.under b1
        clear s1
        have s3 := s2.alloc 58 #[.string ⟨O.toArray⟩, .string ⟨W9.toArray⟩]
        go_wp2_with fail
        generalize w1.heap.size = h at s3 ⊢
        generalize w1.alloc (.cells #[.string ⟨O.toArray⟩, .string ⟨W9.toArray⟩] 58) = W2 at s3 ⊢
        have hneq : h ≠ g := by
          obtain ⟨F, G, f1, f2, _, _, f3, _⟩ := s3.open2
          obtain ⟨_, rfl⟩ := f1
          obtain ⟨_, rfl⟩ := f2
          exact fun e => f3 h rfl e
        have e0 : W2.drew.cell? ⟨h, 0, none⟩ = some (.string ⟨O.toArray⟩) := s3.blk.cell 0
        have e1 : W2.drew.cell? ⟨h, 1, none⟩ = some (.string ⟨W9.toArray⟩) := s3.blk.cell 1
        have s4 := s3.drew
        have t4 := s4.swap
        have u0 := t4.blk.cell 0
        have u1 := t4.blk.cell 1
        have u2 := t4.blk.frozen 0
        have u3 := t4.blk.frozen 1
        have u4 := t4.blk.lt
        clear s3 s2
        go_region_held3 (fun w' => w'.cell? ⟨h, 0, none⟩ = some (.string ⟨O.toArray⟩) ∧ w'.cell? ⟨h, 1, none⟩ = some (.string ⟨W9.toArray⟩))
          (first
            | exact ⟨e0, e1⟩
            | exact ⟨z0, z1⟩
            | exact ⟨below_cell b4 x0, below_cell b4 x1⟩
            | exact ⟨x0, x1⟩
            | fail)
          (first
            | (with_reducible refine (k3 _).mono ?_
               rintro e w3 ⟨rfl, b3⟩
               have x0 : w3.cell? ⟨h, 0, none⟩ = some (.string ⟨O.toArray⟩) := below_cell b3 e0
               have x1 : w3.cell? ⟨h, 1, none⟩ = some (.string ⟨W9.toArray⟩) := below_cell b3 e1)
            | (with_reducible refine (k4 _).mono ?_
               rintro e w4 ⟨rfl, b4⟩
               have v0 : w4.cell? ⟨g, 0, none⟩ = some (.string ⟨#[]⟩) := below_cell b4 (below_cell b3 u0)
               have v1 : w4.cell? ⟨g, 1, none⟩ = some (.string ⟨#[]⟩) := below_cell b4 (below_cell b3 u1)
               have v4' : g < w3.heap.size := Nat.lt_of_lt_of_le u4 b3.size
               have v2 : w4.frozen? ⟨g, 0, none⟩ = false := (b4.frozen (p := ⟨g, 0, none⟩) v4').trans ((b3.frozen (p := ⟨g, 0, none⟩) u4).trans u2)
               have v3 : w4.frozen? ⟨g, 1, none⟩ = false := (b4.frozen (p := ⟨g, 1, none⟩) v4').trans ((b3.frozen (p := ⟨g, 1, none⟩) u4).trans u3)
               have v4 : g < w4.heap.size := Nat.lt_of_lt_of_le v4' b4.size
               have z0 : ((w4.setCell ⟨g, 0, none⟩ (.string ⟨R1.toArray⟩)).setCell ⟨g, 1, none⟩ (.string ⟨R2.toArray⟩)).cell? ⟨h, 0, none⟩ = some (.string ⟨O.toArray⟩) := by
                 rw [World.cell?_setCell_far _ _ _ _ (Ne.symm hneq), World.cell?_setCell_far _ _ _ _ (Ne.symm hneq)]
                 exact below_cell b4 x0
               have z1 : ((w4.setCell ⟨g, 0, none⟩ (.string ⟨R1.toArray⟩)).setCell ⟨g, 1, none⟩ (.string ⟨R2.toArray⟩)).cell? ⟨h, 1, none⟩ = some (.string ⟨W9.toArray⟩) := by
                 rw [World.cell?_setCell_far _ _ _ _ (Ne.symm hneq), World.cell?_setCell_far _ _ _ _ (Ne.symm hneq)]
                 exact below_cell b4 x1)
            | fail)
        all_goals
          have s5 := (((t4.under b3).under b4).set_ 0 (.string ⟨R1.toArray⟩)).set_ 1 (.string ⟨R2.toArray⟩)
          have y0 := s5.blk.cell 0
          have y1 := s5.blk.cell 1
          simp at y0 y1
          go_wp2
          exact bodyPost_ret (v := .tuple #[.agg #[.string ⟨R1.toArray⟩, .string ⟨R2.toArray⟩], .bool ok]) (by simp [results, Try.results50, go_sem, y0, y1]) rfl ⟨rfl, s5.below⟩
end Go.Proofs.Ytiklfjehhdbhfaa
