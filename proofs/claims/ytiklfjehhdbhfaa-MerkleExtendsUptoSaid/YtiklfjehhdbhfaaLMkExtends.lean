/-
  MerkleExtends: the walk. Conditions: the arguments are small.
-/
import Derived.Test.YtiklfjehhdbhfaaMkR
import Derived.Test.YtiklfjehhdbhfaaStep2
namespace Go.Proofs.Ytiklfjehhdbhfaa
set_option linter.unusedVariables false
open Go.RowKit

/-- what a consistency proof does -/
structure ConOk (L : List Mk.Str) (m d : Nat) (F R : Mk.Str) (P : List Mk.Str) : Prop where
  con : mCon L m = (P, 0)
  len : P.length = d
  first : mRoot (L.take m) = F
  root : mRoot L = R
  yes : extB m L.length F R P = true
  no : ∀ P' : List Mk.Str, P'.length ≠ d → extB m L.length F R P' = false
  order : ∀ P' : List Mk.Str, m < L.length → extB L.length m R F P' = false
  ends : m = 0 ∨ m = L.length → d = 0
  mid : 0 < m → m < L.length → 0 < d
  le : d ≤ L.length
theorem con_ok {L : List Mk.Str} (h : Mk.AllD L) (hl : L.length ≤ 4096) (m : Nat) (hm : m ≤ L.length) : ∃ d F R P, ConOk L m d F R P := by
  by_cases h0 : m = 0
  · subst h0
    have e1 : mRoot (L.take 0) = Sh.sha [] := by rw [List.take_zero, mRoot_ok Mk.AllD.nil (by simp), Mk.root_nil]
    exact ⟨0, _, _, [], mCon_zero h hl, rfl, e1, mRoot_ok h hl, extB_zero h hl, fun P' hP => extB_zero_len _ _ _ _ (fun e => hP (by rw [e]; rfl)), fun P' hlt => extB_order _ _ _ _ _ (by omega), fun _ => rfl, fun a => absurd a (by omega), Nat.zero_le _⟩
  · have hlen := Mk.cons_length L.length L m true rfl (by omega) hm
    refine ⟨Mk.cdepth m L.length true, Mk.root (L.take m), Mk.root L, Mk.cons L m true, mCon_ok h hl m (by omega) hm, hlen, mRoot_ok (h.take m) (by rw [List.length_take]; omega), mRoot_ok h hl, extB_ok h hl m (by omega) hm, fun P' hP => extB_len _ _ _ _ _ (by omega) hm hP, fun P' hlt => extB_order _ _ _ _ _ (by omega), fun hq => ?_, fun _ hlt => ?_, cdepth_le m L.length true (by omega)⟩
    · rcases hq with hq | hq
      · exact absurd hq h0
      · rw [hq, Mk.cdepth_same]; rfl
    · by_cases hs : m ≤ Mk.split L.length
      · rw [Mk.cdepth_left _ _ _ (by omega) (by omega) hs]; omega
      · rw [Mk.cdepth_right _ _ _ (by omega) (by omega) hs]; omega
set_option maxRecDepth 20000 in
set_option maxHeartbeats 4000000 in
theorem merkleExtends_walk (A : Option Addr) (D : List Mk.Str) (c : Nat) (old : Nat) (w : World) (hw : old < 256) (hR : Rd w A (strs D)) (hp : weight D ≤ 1073741824) :
    Calls Try.prog 6 #[.slice A D.length c, .int .u8 old] w fun e w' => e = .returned (.bool true) ∧ Below w.heap.size w w' := by
  have hLl : D.length ≤ 1073741824 := by unfold weight at hp; omega
  have kF := fun W hb => mfew_spec A D c W (hR.below hb) (by omega)
  have kl := fun W hb => leaves_spec A D c W (hR.below hb) hp
  obtain ⟨fb, hfb⟩ : ∃ fb, fewB D = fb := ⟨_, rfl⟩
  rw [hfb] at kF
  have HX := Lib.hid (And.intro hR hp)
  clear hR hp hfb
  go_enter Try.func6, Try.ntmps6
  go_wp2_with fail
  refine (awake_mk _).mono ?_
  rintro e w1 ⟨rfl, b1⟩
  go_wp2_with fail
  refine (kF _ b1).mono ?_
  rintro e w' ⟨rfl, rfl⟩
  cases fb with
  | false =>
    go_wp2
    go_ret
    exact ⟨rfl, b1⟩
  | true =>
  by_cases h40 : D.length > 40
  · have g1 : decide ((D.length : Int) > 40) = true := by simp; omega
    go_wp2
    go_ret
    exact ⟨rfl, b1⟩
  have g1 : decide ((D.length : Int) > 40) = false := by simp; omega
  have hD : Mk.AllD (D.map Mk.leaf) := leaf_dig D
  have hl : (D.map Mk.leaf).length = D.length := List.length_map ..
  generalize D.map Mk.leaf = L at kl hD hl
  go_wp2_with fail
  refine (kl _ b1).mono ?_
  rintro e w2 ⟨A2, c2, rfl, hc2, hm2, t2⟩
  have h2 := ((St.nil w).under b1).join t2
  have rl : ∀ W, Below w2.heap.size w2 W → Rd W A2 (strs L) := fun W hb => (Rd.of_own t2.own).below hb
  obtain ⟨N, hN⟩ : ∃ N, L.length = N := ⟨_, rfl⟩
  obtain ⟨m, hm⟩ : ∃ m, old % (N + 1) = m := ⟨_, rfl⟩
  have hmN : m ≤ N := by rw [← hm]; have := Nat.mod_lt old (show 0 < N + 1 by omega); omega
  have hN40 : N ≤ 40 := by omega
  have hmod : (old : Int).tmod ((N : Int) + 1) = (m : Int) := by rw [show (N : Int) + 1 = ((N + 1 : Nat) : Int) from rfl, tmod_nat, hm]
  have hmod2 : (old : Int) % ((N : Int) + 1) = (m : Int) := by rw [← hm]; rfl
  obtain ⟨d, F, R, P, hok⟩ := con_ok hD (by omega) m (by omega)
  have kR : ∀ W, Below w2.heap.size w2 W → Calls Try.prog 19 #[.slice A2 N c2] W fun e w' => e = .returned (.string ⟨R.toArray⟩) ∧ Below W.heap.size W w' := fun W hb => by
    have := root_mk A2 L c2 W (rl W hb) (by omega) hc2 hm2
    rw [hok.root, hN] at this
    exact this
  have kS : ∀ W, Below w2.heap.size w2 W → Calls Try.prog 19 #[.slice A2 m c2] W fun e w' => e = .returned (.string ⟨F.toArray⟩) ∧ Below W.heap.size W w' := fun W hb => by
    have ht : (L.take m).length = m := by rw [List.length_take]; omega
    have := root_mk A2 (L.take m) c2 W (rd_take (rl W hb) m) (by omega) (by omega) hm2
    rw [hok.first, ht] at this
    exact this
  have kC : ∀ W, Below w2.heap.size w2 W → Calls Try.prog 13 #[.slice A2 N c2, .int .i64 m] W (PrP (P, 0) W) := fun W hb => by
    have := con_mk A2 L c2 (m : Int) W (rl W hb) (by omega) hc2 hm2
    rw [hok.con, hN] at this
    exact this
  have y0 := (Below.refl w2.heap.size w2).drew
  rw [hN] at hc2 t2 ⊢
  have m0 : (0 : Int) ≤ (m : Int) := by omega
  have m1 : (m : Int) ≤ (c2 : Int) := by omega
  have m2 : (N : Int) ≤ (c2 : Int) := by omega
  have hNz : ((N : Int) + 1 == 0) = false := beq_eq_false_iff_ne.2 (by omega)
  have hNz2 : ¬ (N : Int) + 1 = 0 := by omega
  have HI := Lib.hid (And.intro hm (And.intro h2 (And.intro hok hN)))
  clear hm h2 hok hN rl hl hD kl kF
  go_wp2_with fail
  refine wp_region_noPanic ?_
  refine wp_region_held_drew (S := (fun _ => True)) (by kernel_rfl) ?_ (fun hH0 => ?_)
  · (trivial)
  refine wpAnyH_take (i := 0) (oi := ⟨some 29, _, _, _, _, _⟩) (v := ?_) rfl (by kernel_rfl) (by kernel_rfl) (by kernel_rfl) (fun _ _ _ h => h) (Or.inl ⟨by rfl, ?_⟩) hH0 ?_
  rotate_left 1
  · intro w hSw; (try dsimp only at hSw); go_simp; with_reducible rfl
  try simp only [Act.put, List.setIfInBounds_toArray, List.set_cons_zero, List.set_cons_succ]
  refine wpAnyH_take (i := 2) (oi := ⟨some 31, _, _, _, _, _⟩) (v := ?_) rfl (by kernel_rfl) (by kernel_rfl) (by kernel_rfl) (fun _ _ _ h => h) (Or.inl ⟨by rfl, ?_⟩) hH0 ?_
  rotate_left 1
  · intro w hSw; (try dsimp only at hSw); go_simp; with_reducible rfl
  try simp only [Act.put, List.setIfInBounds_toArray, List.set_cons_zero, List.set_cons_succ]
  refine wpAnyH_take (i := 3) (oi := ⟨some 32, _, _, _, _, _⟩) (v := ?_) rfl (by kernel_rfl) (by kernel_rfl) (by kernel_rfl) (fun _ _ _ h => h) (Or.inl ⟨by rfl, ?_⟩) hH0 ?_
  rotate_left 1
  · intro w hSw; (try dsimp only at hSw); go_simp; with_reducible rfl
  try simp only [Act.put, List.setIfInBounds_toArray, List.set_cons_zero, List.set_cons_succ]
  refine wpAnyH_take (i := 4) (oi := ⟨some 33, _, _, _, _, _⟩) (v := ?_) rfl (by kernel_rfl) (by kernel_rfl) (by kernel_rfl) (fun _ _ _ h => h) (Or.inl ⟨by rfl, ?_⟩) hH0 ?_
  rotate_left 1
  · intro w hSw; (try dsimp only at hSw); go_simp; with_reducible rfl
  try simp only [Act.put, List.setIfInBounds_toArray, List.set_cons_zero, List.set_cons_succ]
  refine wpAnyH_ready (rs := [1]) (by kernel_rfl) (by simp) ?_
  refine AllReadyH.cons (o := ⟨some 30, _, _, _, _, _⟩) rfl (fun K hK => ?_) AllReadyH.nil
  go_simp; (first
        | (with_reducible refine (kR _ y0).mono ?_
           rintro e w3 ⟨rfl, b3⟩
           have y1 := y0.trans (b3.mono y0.size))
        | (with_reducible refine (kS _ y1).mono ?_
           rintro e w4 ⟨rfl, b4⟩
           have y2 := y1.trans (b4.mono y1.size))
        | fail); go_wp2_with fail
  refine hK.out _ _ ?_ (fun hH1 => ?_)
  · (trivial)
  clear hK K hH0
  try simp only [Act.put, List.setIfInBounds_toArray, List.set_cons_zero, List.set_cons_succ]
  refine wpAnyH_ready (rs := [5]) (by kernel_rfl) (by simp) ?_
  refine AllReadyH.cons (o := ⟨some 34, _, _, _, _, _⟩) rfl (fun K hK => ?_) AllReadyH.nil
  go_simp; (first
        | (with_reducible refine (kR _ y0).mono ?_
           rintro e w3 ⟨rfl, b3⟩
           have y1 := y0.trans (b3.mono y0.size))
        | (with_reducible refine (kS _ y1).mono ?_
           rintro e w4 ⟨rfl, b4⟩
           have y2 := y1.trans (b4.mono y1.size))
        | fail); go_wp2_with fail
  refine hK.out _ _ ?_ (fun hH2 => ?_)
  · (trivial)
  clear hK K hH1
  try simp only [Act.put, List.setIfInBounds_toArray, List.set_cons_zero, List.set_cons_succ]
  refine wpAnyH_take (i := 6) (oi := ⟨some 7, _, _, _, _, _⟩) (v := ?_) rfl (by kernel_rfl) (by kernel_rfl) (by kernel_rfl) (fun _ _ _ h => h) (Or.inl ⟨by rfl, ?_⟩) hH2 ?_
  rotate_left 1
  · intro w hSw; (try dsimp only at hSw); go_simp; with_reducible rfl
  try simp only [Act.put, List.setIfInBounds_toArray, List.set_cons_zero, List.set_cons_succ]
  refine wpAnyH_take (i := 7) (oi := ⟨some 8, _, _, _, _, _⟩) (v := ?_) rfl (by kernel_rfl) (by kernel_rfl) (by kernel_rfl) (fun _ _ _ h => h) (Or.inl ⟨by rfl, ?_⟩) hH2 ?_
  rotate_left 1
  · intro w hSw; (try dsimp only at hSw); go_simp; with_reducible rfl
  try simp only [Act.put, List.setIfInBounds_toArray, List.set_cons_zero, List.set_cons_succ]
  refine wpAnyH_done (by kernel_rfl) ?_ _
  all_goals (refine NoPanic.normal ?_)
  go_wp2_with fail
  refine (kC _ y2).mono ?_
  rintro e w5 ⟨v5, rfl, t5⟩
  obtain ⟨A5, c5, rfl, hc5, hm5⟩ := own_form t5.own
  have y5 := y2.trans (t5.below.mono y2.size)
  have hlen := HI.out.2.2.1.len
  have hd40 : d ≤ 40 := by have := HI.out.2.2.1.le; have := HI.out.2.2.2; omega
  have rp : ∀ W, Below w5.heap.size w5 W → Rd W A5 (strs P) := fun W hb => (Rd.of_own t5.own).below hb
  have hnil : A5 = none → P.length = 0 ∧ c5 = 0 := fun e => by
    subst e
    rcases t5.own.2 with ⟨e1, e2⟩ | ⟨g, cap, cur, e1, _⟩
    · exact ⟨e2, by injection e1⟩
    · cases e1
  rw [hlen] at hc5 t5 hnil ⊢
  have kE : ∀ W, Below w5.heap.size w5 W → Calls Try.prog 30 #[.int .i64 m, .int .i64 N, .string ⟨F.toArray⟩, .string ⟨R.toArray⟩, .slice A5 d c5] W fun e w' => e = .returned (.bool true) ∧ Below W.heap.size W w' := fun W hb => by
    have := extends_spec m N F R A5 P c5 W (rp W hb) (by omega) hm5
    rw [← HI.out.2.2.2, HI.out.2.2.1.yes, hlen] at this
    rw [← HI.out.2.2.2]
    exact this
  have kN : ∀ W A' c' (P' : List Mk.Str) d', Rd W A' (strs P') → P'.length = d' → d' ≤ c' → c' ≤ maxLen → d' ≠ d → Calls Try.prog 30 #[.int .i64 m, .int .i64 N, .string ⟨F.toArray⟩, .string ⟨R.toArray⟩, .slice A' d' c'] W fun e w' => e = .returned (.bool false) ∧ Below W.heap.size W w' := fun W A' c' P' d' h1 h2 h3 h4 h5 => by
    have := extends_spec m N F R A' P' c' W h1 (by omega) h4
    rw [← HI.out.2.2.2, HI.out.2.2.1.no P' (by omega), h2] at this
    rw [← HI.out.2.2.2]
    exact this
  have kO : ∀ W, Below w5.heap.size w5 W → m < N → Calls Try.prog 30 #[.int .i64 N, .int .i64 m, .string ⟨R.toArray⟩, .string ⟨F.toArray⟩, .slice A5 d c5] W fun e w' => e = .returned (.bool false) ∧ Below W.heap.size W w' := fun W hb hlt => by
    have := extends_spec N m R F A5 P c5 W (rp W hb) (by omega) hm5
    rw [← HI.out.2.2.2, HI.out.2.2.1.order P (by have := HI.out.2.2.2; omega), hlen] at this
    rw [← HI.out.2.2.2]
    exact this
  have kCl : ∀ W, Below w5.heap.size w5 W → Calls Try.prog 29 #[.slice A5 d c5] W fun e w' => ∃ v, e = .returned v ∧ St w5.heap.size w5 w' [ownR 9 1 v d (strs P)] := fun W hb => by
    have := clone_spec A5 P c5 W (rp W hb) (by rw [hlen]; exact hnil) (by omega)
    rw [hlen] at this
    exact this.mono fun e w' ⟨v, h1, h2, h3⟩ => ⟨v, h1, ((St.nil w5).under hb).new_own h3 h2⟩
  have q2 : d + 1 ≤ maxLen := by unfold maxLen; omega
  have q1 : (d + 1) * 16 ≤ 140737488355328 := by omega
  have hcase : (d = 0 ∧ m = 0 ∧ m < N) ∨ (d = 0 ∧ m = 0 ∧ ¬ m < N) ∨ (d = 0 ∧ 0 < m ∧ ¬ m < N) ∨ (0 < d ∧ 0 < m ∧ m < N) := by
    have e1 := HI.out.2.2.1.ends
    have e2 := HI.out.2.2.1.mid
    have e3 := HI.out.2.2.2
    rw [e3] at e1 e2
    by_cases a : m = 0
    · have := e1 (.inl a)
      omega
    · by_cases b : m = N
      · have := e1 (.inr b)
        omega
      · have := e2 (by omega) (by omega)
        omega
  have HP := Lib.hid (And.intro rp (And.intro hlen (And.intro (HI.out.2.1.below.trans (y5.mono HI.out.2.1.size)) (And.intro t5.own y5.size))))
  clear rp hlen y5 y2 y1 y0 b1 t2 t5 kC kR kS hnil hmod hmod2 b3 b4
  go_wp2_with fail
  refine (kE _ (Below.refl _ _)).mono ?_
  rintro e w6 ⟨rfl, b6⟩
  go_wp2_with fail
  refine (kCl _ b6).mono ?_
  rintro e w7 ⟨v7, rfl, h7⟩
  go_wp2_with (at_builtin; go_must (refine appendW 22 (te := 9) (u := .string ⟨R.toArray⟩) h7 Try.underlying22 info_str rfl _ _ rfl (by rfl) rfl rfl rfl q2 q1 ?_); intro g8 c8 w8 h8)
  obtain ⟨A8, c8', e8, hc8, hm8⟩ := own_form h8.own
  injection e8 with e8a e8b e8c
  subst e8a e8c
  have k8 := kN w8 (some ⟨g8, 0, none⟩) c8 (P ++ [R]) (d + 1) (by rw [strs_append]; exact Rd.of_own h8.own) (by rw [List.length_append, HP.out.2.1]; rfl) hc8 hm8 (by omega)
  go_wp2_with fail
  refine k8.mono ?_
  rintro e w9 ⟨rfl, b9⟩
  have b59 := h8.below.trans (b9.mono (Nat.le_trans h8.base h8.below.size))
  clear k8 h8 h7 b6 hc8 hm8 kCl kE
  rcases hcase with ⟨hd, hm', hlt⟩ | ⟨hd, hm', hlt⟩ | ⟨hd, hm', hlt⟩ | ⟨hd, hm', hlt⟩
  · subst hd hm'
    have kO9 := kO _ b59 hlt
    have g2 : decide (((0 : Nat) : Int) < (N : Int)) = true := by simp; omega
    have g3 : decide (0 < N) = true := by simp; omega
    clear kO
    go_wp2_with fail
    refine kO9.mono ?_
    rintro e wA ⟨rfl, bA⟩
    go_wp2
    go_ret
    exact ⟨rfl, HP.out.2.2.1.trans ((b59.trans (bA.mono b59.size)).mono HP.out.2.2.1.size)⟩
  · subst hd hm'
    have g2 : decide (((0 : Nat) : Int) < (N : Int)) = false := by simp; omega
    have g3 : decide (0 < N) = false := by simp; omega
    clear kO
    go_wp2_with fail
    go_ret
    exact ⟨rfl, HP.out.2.2.1.trans (b59.mono HP.out.2.2.1.size)⟩
  · subst hd
    have g2 : decide ((m : Int) < (N : Int)) = false := by simp; omega
    have g3 : decide (m < N) = false := by simp; omega
    have g4 : decide ((m : Int) > 0) = true := by simp; omega
    have g5 : decide (0 < m) = true := by simp; omega
    clear kO
    go_wp2_with fail
    go_ret
    exact ⟨rfl, HP.out.2.2.1.trans (b59.mono HP.out.2.2.1.size)⟩
  · have g2 : decide ((m : Int) < (N : Int)) = true := by simp; omega
    have g3 : decide (m < N) = true := by simp; omega
    have g4 : decide ((m : Int) > 0) = true := by simp; omega
    have g5 : decide (0 < m) = true := by simp; omega
    have g6 : decide ((d : Int) > 0) = true := by simp; omega
    have g7 : decide (0 < d) = true := by simp; omega
    obtain ⟨g4', rfl, hgl4⟩ := mk_some HP.out.2.2.2.1 (by omega)
    have i1 : (1 : Int) ≤ (d : Int) := by omega
    have i2 : (d : Int) ≤ (c5 : Int) := by omega
    have kO9 := fun W hb => kO W hb hlt
    have hr9 := rd_cut (HP.out.1 _ b59) (by rw [HP.out.2.1]; exact hc5)
    have hl9 : (P.drop 1).length = d - 1 := by rw [List.length_drop, HP.out.2.1]
    by_cases hc51 : c5 = 1
    · subst hc51
      obtain rfl : d = 1 := by omega
      have k9 := kN w9 (some ⟨g4', 0, none⟩) 0 (P.drop 1) 0 hr9 hl9 (by omega) (by omega) (by omega)
      clear kO kN hr9 hl9
      go_wp2_with fail
      refine k9.mono ?_
      rintro e wA ⟨rfl, bA⟩
      have bB := b59.trans (bA.mono b59.size)
      go_wp2_with fail
      refine (kO9 _ bB).mono ?_
      rintro e wB ⟨rfl, bC⟩
      go_wp2
      go_ret
      exact ⟨rfl, HP.out.2.2.1.trans ((bB.trans (bC.mono bB.size)).mono HP.out.2.2.1.size)⟩
    · rw [if_neg hc51] at hr9
      have k9 := kN w9 (some ⟨g4', 1, none⟩) (c5 - 1) (P.drop 1) (d - 1) hr9 hl9 (by omega) (by omega) (by omega)
      clear kO kN hr9 hl9
      go_wp2_with fail
      refine k9.mono ?_
      rintro e wA ⟨rfl, bA⟩
      have bB := b59.trans (bA.mono b59.size)
      go_wp2_with fail
      refine (kO9 _ bB).mono ?_
      rintro e wB ⟨rfl, bC⟩
      go_wp2
      go_ret
      exact ⟨rfl, HP.out.2.2.1.trans ((bB.trans (bC.mono bB.size)).mono HP.out.2.2.1.size)⟩
end Go.Proofs.Ytiklfjehhdbhfaa
