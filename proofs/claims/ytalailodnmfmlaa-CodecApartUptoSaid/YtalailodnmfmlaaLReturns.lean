/-
  CodecReturns: the walk: what is written is read back, whatever follows it. Conditions: the arguments are small.
-/
import Derived.Test.YtalailodnmfmlaaCodecAw
import Derived.Test.YtalailodnmfmlaaAppend
import Derived.Test.YtalailodnmfmlaaCodecMath2
namespace Go.Proofs.Ytalailodnmfmlaa
set_option linter.unusedVariables false
open Go.RowKit

theorem body_len' (L : List (List UInt8)) : (Cd.body L).length ≤ 11 * weight L := by
  induction L with
  | nil => simp [Cd.body, weight]
  | cons x L ih =>
    rw [Cd.body_cons, List.length_append, text_len]
    have := Cd.uns_len x.length
    have e : weight (x :: L) = weight L + x.length + 1 := by simp [weight]; omega
    omega
theorem len_weight' (L : List (List UInt8)) : L.length ≤ weight L := by unfold weight; omega
theorem mem_weight {L : List (List UInt8)} {s : List UInt8} (h : s ∈ L) : s.length ≤ weight L := by
  induction L with
  | nil => cases h
  | cons x L ih =>
    have e : weight (x :: L) = weight L + x.length + 1 := by simp [weight]; omega
    rcases List.mem_cons.1 h with rfl | h
    · omega
    · have := ih h; omega
theorem texts_len' (L : List (List UInt8)) : (Cd.texts L).length ≤ 10 + (Cd.body L).length := by
  have := Cd.uns_len L.length
  simp [Cd.texts]; omega
theorem int_len (m : Int) : (Cd.int m).length ≤ 10 := by
  unfold Cd.int; split <;> exact Cd.uns_len _

set_option maxRecDepth 20000 in
set_option maxHeartbeats 4000000 in
theorem codecReturns_walk (n m : Int) (h0 : -9223372036854775808 ≤ n) (h1 : n ≤ 9223372036854775807) (g0 : -9223372036854775808 ≤ m) (g1 : m ≤ 9223372036854775807) (s rest : List UInt8) (A : Option Addr) (L : List (List UInt8)) (c : Nat) (w : World)
    (hR : Rd w A (strs L)) (hnil : A = none → L.length = 0 ∧ c = 0) (hs : s.length ≤ 1048576) (hr : rest.length ≤ 1048576) (hL : weight L ≤ 1048576) :
    Calls Try.prog 4 #[.int .i64 n, .int .i64 m, .string ⟨s.toArray⟩, .slice A L.length c, .string ⟨rest.toArray⟩] w fun e w' => e = .returned (.bool true) ∧ Below w.heap.size w w' := by
  have hLl := len_weight' L
  go_enter Try.func4, Try.ntmps4
  go_wp2_with fail
  refine (awake_spec _).mono ?_
  rintro e w1 ⟨rfl, b1⟩
  have s1 := b1.size
  have rd1 := hR.below b1
  go_wp2_with (at_builtin; go_must (refine appendN _ 22 9 (.string ⟨#[]⟩) 16 w.heap.size Try.underlying22 info_str rfl rfl _ _ rfl _ 2 [.string ⟨s.toArray⟩, .string ⟨rest.toArray⟩] A L.length c (strs L) (World.ownsRow_lit w1 #[.string ⟨s.toArray⟩, .string ⟨rest.toArray⟩] 2 s1 (by decide) rfl) rfl rfl hnil (rd1.alloc _) (strs_length L) (strs_one L) (by omega) (by unfold maxLen; omega) (by simp; omega) ?_))
  intro v2 w2 o2 g2
  obtain ⟨A2, c2, rfl, hc1, hc2⟩ := own_form o2
  have b2 : Below w.heap.size w w2 := (b1.alloc s1 _).grown g2 (by simp; omega) (fun k hk => by cases hk; exact s1)
  have rd2 : Rd w2 A2 (strs (s :: rest :: L)) := Rd.of_own o2
  clear o2 g2 hc1 hc2 rd1
  have hw : weight (s :: rest :: L) = weight L + s.length + rest.length + 2 := by simp [weight]; omega
  have kFew := few_spec A2 (s :: rest :: L) c2 2000 w2 rd2 (by omega)
  rw [show (s :: rest :: L).length = 2 + L.length from by simp; omega] at kFew
  clear rd2
  by_cases hf : (weight (s :: rest :: L) : Int) ≤ 2000
  · rw [decide_eq_true hf] at kFew
    go_wp2_with fail
    refine kFew.mono ?_
    clear kFew
    rintro e w' ⟨rfl, rfl⟩
    have hbl := body_len' L
    have htl := texts_len' L
    have hil := int_len m
    have htx := text_len s
    have htu := Cd.uns_len s.length
    have kI := fun w => int_spec m g0 g1 w
    have kT := fun w => text_spec s (by omega) w
    have kTs := fun w hR => texts_spec A L c w hR (by omega) (by omega)
    have hmL : ∀ x ∈ L, x.length < 2 ^ 63 := fun x hx => by have := mem_weight hx; omega
    by_cases hn : n < 0
    · have kU := fun w => uint_neg n hn w
      have hn' : decide (0 ≤ n) = false := by simp; omega
      go_wp2_with fail
      refine (kU _).mono ?_
      clear kU
      rintro e w3 ⟨rfl, rfl⟩
      have b3 := b2
      clear b2
      go_wp2_with fail
      refine (kI _).mono ?_
      rintro e w4 ⟨rfl, b⟩
      have b4 := below_up b3 b; clear b3 b
      go_wp2_with fail
      refine (kT _).mono ?_
      rintro e w5 ⟨rfl, b⟩
      have b5 := below_up b4 b; clear b4 b
      go_wp2_with fail
      refine (kTs _ (hR.below b5)).mono ?_
      rintro e w6 ⟨rfl, b⟩
      have b6 := below_up b5 b; clear b5 b
      have hba := bytes_append
      go_wp2_with fail
      clear hba kI kT kTs
      obtain ⟨a2, a3, a4, f2, f3, f4, l1, l2, l3, l4⟩ := Cd.all_reads [] s rest m L g0 g1 (by omega) hmL (by omega)
      
      have hal : ([] ++ (Cd.int m ++ (Cd.text s ++ (Cd.texts L ++ rest)))).length ≤ 1099511627776 := by simp only [List.length_append]; simp only [List.length_nil]; omega
      simp only [List.nil_append] at f2 f3 f4 l1 l2 l3 l4 hal
      obtain ⟨all, hall⟩ : ∃ all, Cd.int m ++ (Cd.text s ++ (Cd.texts L ++ rest)) = all := ⟨_, rfl⟩
      rw [hall]
      rw [hall] at f2 f3 f4 l1 l2 l3 l4 hal 
      obtain ⟨u0, hu0⟩ : ∃ u0, ([] : List UInt8).length = u0 := ⟨_, rfl⟩
      rw [hu0] at f2 l1
      obtain rfl : 0 = u0 := hu0
      have HA := Lib.hid (And.intro l4 (And.intro l1 (And.intro l2 l3)))
      have hLw : L.length ≤ 1048576 := by omega
      have HX := Lib.hid (And.intro hbl (And.intro htl (And.intro hil (And.intro htx htu))))
      clear l1 l2 l3 l4 hbl htl hil htx htu hall hmL hL hLl hf hw
      go_must (refine (newReader_spec all _).mono ?_)
      rintro e w7 ⟨rfl, r7, b⟩
      have b7 := below_up b6 b
      have s6 := b6.size
      clear b6 b
      have kR2 : ∀ w r, Rr w r all 0 0 → Calls Try.prog 22 #[.pointer (some ⟨r, 0, none⟩)] w (MethP r all (.int .i64 m) a2 0 w) := fun w r h => by
        have := rint_spec r all 0 0 w h hal HA.out.2.1
        rwa [show intR all 0 0 = (m, a2, 0) from by unfold intR; rw [if_neg (by simp), f2]] at this
      have kR3 : ∀ w r, Rr w r all a2 0 → Calls Try.prog 23 #[.pointer (some ⟨r, 0, none⟩)] w (MethP r all (.string ⟨s.toArray⟩) a3 0 w) := fun w r h => by
        have := rtextm_spec r all a2 0 w h hal HA.out.2.2.1
        rwa [show textR all a2 0 = (s, a3, 0) from by unfold textR; rw [if_neg (by simp), f3]] at this
      have kR4 : ∀ w r, Rr w r all a3 0 → Calls Try.prog 25 #[.pointer (some ⟨r, 0, none⟩)] w (MethT r w.heap.size all L a4 0 w) := fun w r h => by
        have := rtexts_spec r all a3 0 w h hal HA.out.2.2.2
        rwa [show textsR all a3 0 = (L, a4, 0) from by unfold textsR; rw [if_neg (by simp), f4]] at this
      clear f2 f3 f4
      have e1 := r7
      have b8 := b7
      go_wp2_with fail
      refine (kR2 _ _ e1).mono ?_
      clear kR2 e1
      rintro e w9 ⟨rfl, r9, mm⟩
      have b9 := below_step b8 mm (fun i hi he => by omega)
      clear b8 mm
      go_wp2_with fail
      refine (kR3 _ _ r9).mono ?_
      clear kR3 r9
      rintro e wa ⟨rfl, ra, mm⟩
      have ba := below_step b9 mm (fun i hi he => by omega)
      clear b9 mm
      go_wp2_with fail
      refine (kR4 _ _ ra).mono ?_
      clear kR4 ra
      rintro e wb ⟨v, rfl, ob, rb, mm⟩
      have bb := below_step ba mm (fun i hi he => by omega)
      clear ba mm
      obtain ⟨A3, c3, rfl, hc3, hc4⟩ := own_form ob
      have rd3 := Rd.of_own ob
      clear ob hc3 hc4
      have kEq : ∀ w1, Rd w1 A3 (strs L) → Rd w1 A (strs L) → Calls Try.prog 24 #[.slice A3 L.length c3, .slice A L.length c] w1 fun e w' => e = .returned (.bool true) ∧ Below w1.heap.size w1 w' :=
        fun w1 h1 h2 => (equal_spec A3 A L L c3 c w1 h1 h2 (by omega) (by omega)).mono fun e w' ⟨a, n, b⟩ => ⟨a.trans (ret_eq (congrArg Value.bool (by simp))), by subst b; exact below_drewN _ _⟩
      have HW := Lib.hid hLw; clear hLw
      go_wp2_with fail
      refine (kEq _ rd3 (hR.below bb)).mono ?_
      clear kEq rd3
      rintro e wc ⟨rfl, b⟩
      have bc := below_up bb b
      have rc := rb.below b
      clear bb b rb
      go_wp2_with fail
      refine (error_spec _ _ _ _ _ rc).mono ?_
      rintro e wd ⟨rfl, rfl⟩
      by_cases hre : rest = []
      · have kE : ∀ w r, Rr w r all a4 0 → Calls Try.prog 27 #[.pointer (some ⟨r, 0, none⟩)] w fun e' w' => e' = .returned (.int .i64 0) ∧ Below w.heap.size w w' :=
          fun w r h => (end_spec r all a4 0 w h).mono fun e w' ⟨a, n, b⟩ => ⟨a.trans (ret_eq (by rw [show endR all a4 0 = 0 from if_neg (by have := HA.out.1; subst hre; simp at this; omega)])), by subst b; exact below_drewN _ _⟩
        have hre2 : rest.isEmpty = true := by simp [hre]
        clear hre
        go_wp2_with fail
        refine (kE _ _ rc).mono ?_
        clear kE
        rintro e we ⟨rfl, b⟩
        have be := below_up bc b
        clear bc b rc
        go_wp2
        go_ret
        refine ⟨ret_eq (congrArg Value.bool (by simp_all)), be⟩
      · have kE : ∀ w r, Rr w r all a4 0 → Calls Try.prog 27 #[.pointer (some ⟨r, 0, none⟩)] w fun e' w' => e' = .returned (.int .i64 9) ∧ Below w.heap.size w w' :=
          fun w r h => (end_spec r all a4 0 w h).mono fun e w' ⟨a, n, b⟩ => ⟨a.trans (ret_eq (by rw [show endR all a4 0 = 9 from if_pos ⟨rfl, by have := HA.out.1; have : 0 < rest.length := List.length_pos_iff.2 hre; omega⟩])), by subst b; exact below_drewN _ _⟩
        have hre2 : rest.isEmpty = false := by simp [hre]
        clear hre
        go_wp2_with fail
        refine (kE _ _ rc).mono ?_
        clear kE
        rintro e we ⟨rfl, b⟩
        have be := below_up bc b
        clear bc b rc
        go_wp2
        go_ret
        refine ⟨ret_eq (congrArg Value.bool (by simp_all)), be⟩
    · obtain ⟨N, rfl⟩ : ∃ N : Nat, n = N := ⟨n.toNat, by omega⟩
      have kU := fun w => uint_pos N (by omega) w
      have hul := Cd.uns_len N
      have hN : (N : Int) ≤ 9223372036854775807 := h1
      go_wp2_with fail
      refine (kU _).mono ?_
      clear kU
      rintro e w3 ⟨rfl, b⟩
      have b3 := below_up b2 b; clear b2 b
      go_wp2_with fail
      refine (kI _).mono ?_
      rintro e w4 ⟨rfl, b⟩
      have b4 := below_up b3 b; clear b3 b
      go_wp2_with fail
      refine (kT _).mono ?_
      rintro e w5 ⟨rfl, b⟩
      have b5 := below_up b4 b; clear b4 b
      go_wp2_with fail
      refine (kTs _ (hR.below b5)).mono ?_
      rintro e w6 ⟨rfl, b⟩
      have b6 := below_up b5 b; clear b5 b
      have hba := bytes_append
      go_wp2_with fail
      clear hba kI kT kTs
      obtain ⟨a2, a3, a4, f2, f3, f4, l1, l2, l3, l4⟩ := Cd.all_reads (Cd.uns N) s rest m L g0 g1 (by omega) hmL (by omega)
      have f1 := Cd.readUint_at [] (Cd.int m ++ (Cd.text s ++ (Cd.texts L ++ rest))) N (by omega)
      simp only [List.nil_append, List.length_nil, Nat.zero_add] at f1
      have hal : ((Cd.uns N) ++ (Cd.int m ++ (Cd.text s ++ (Cd.texts L ++ rest)))).length ≤ 1099511627776 := by simp only [List.length_append];  omega
      
      obtain ⟨all, hall⟩ : ∃ all, Cd.uns N ++ (Cd.int m ++ (Cd.text s ++ (Cd.texts L ++ rest))) = all := ⟨_, rfl⟩
      rw [hall]
      rw [hall] at f2 f3 f4 l1 l2 l3 l4 hal f1
      obtain ⟨u0, hu0⟩ : ∃ u0, ((Cd.uns N) : List UInt8).length = u0 := ⟨_, rfl⟩
      rw [hu0] at f2 l1 f1
      have HA := Lib.hid (And.intro l4 (And.intro l1 (And.intro l2 l3)))
      have hLw : L.length ≤ 1048576 := by omega
      have HX := Lib.hid (And.intro hbl (And.intro htl (And.intro hil (And.intro htx htu))))
      clear l1 l2 l3 l4 hbl htl hil htx htu hall hu0 hmL hL hLl hf hw
      go_must (refine (newReader_spec all _).mono ?_)
      rintro e w7 ⟨rfl, r7, b⟩
      have b7 := below_up b6 b
      have s6 := b6.size
      clear b6 b
      have kR1 : ∀ w r, Rr w r all 0 0 → Calls Try.prog 21 #[.pointer (some ⟨r, 0, none⟩)] w (MethP r all (.int .i64 N) u0 0 w) := fun w r h => by
        have := ruint_spec r all 0 0 w h hal (Nat.zero_le _)
        rwa [show uintR all 0 0 = ((N : Int), u0, 0) from by unfold uintR; rw [if_neg (by simp), f1]] at this
      clear f1
      have kR2 : ∀ w r, Rr w r all u0 0 → Calls Try.prog 22 #[.pointer (some ⟨r, 0, none⟩)] w (MethP r all (.int .i64 m) a2 0 w) := fun w r h => by
        have := rint_spec r all u0 0 w h hal HA.out.2.1
        rwa [show intR all u0 0 = (m, a2, 0) from by unfold intR; rw [if_neg (by simp), f2]] at this
      have kR3 : ∀ w r, Rr w r all a2 0 → Calls Try.prog 23 #[.pointer (some ⟨r, 0, none⟩)] w (MethP r all (.string ⟨s.toArray⟩) a3 0 w) := fun w r h => by
        have := rtextm_spec r all a2 0 w h hal HA.out.2.2.1
        rwa [show textR all a2 0 = (s, a3, 0) from by unfold textR; rw [if_neg (by simp), f3]] at this
      have kR4 : ∀ w r, Rr w r all a3 0 → Calls Try.prog 25 #[.pointer (some ⟨r, 0, none⟩)] w (MethT r w.heap.size all L a4 0 w) := fun w r h => by
        have := rtexts_spec r all a3 0 w h hal HA.out.2.2.2
        rwa [show textsR all a3 0 = (L, a4, 0) from by unfold textsR; rw [if_neg (by simp), f4]] at this
      clear f2 f3 f4
      go_wp2_with fail
      refine (kR1 _ _ r7).mono ?_
      clear kR1 r7
      rintro e w8 ⟨rfl, e1, mm⟩
      have b8 := below_step b7 mm (fun i hi he => by omega)
      clear b7 mm
      go_wp2_with fail
      refine (kR2 _ _ e1).mono ?_
      clear kR2 e1
      rintro e w9 ⟨rfl, r9, mm⟩
      have b9 := below_step b8 mm (fun i hi he => by omega)
      clear b8 mm
      go_wp2_with fail
      refine (kR3 _ _ r9).mono ?_
      clear kR3 r9
      rintro e wa ⟨rfl, ra, mm⟩
      have ba := below_step b9 mm (fun i hi he => by omega)
      clear b9 mm
      go_wp2_with fail
      refine (kR4 _ _ ra).mono ?_
      clear kR4 ra
      rintro e wb ⟨v, rfl, ob, rb, mm⟩
      have bb := below_step ba mm (fun i hi he => by omega)
      clear ba mm
      obtain ⟨A3, c3, rfl, hc3, hc4⟩ := own_form ob
      have rd3 := Rd.of_own ob
      clear ob hc3 hc4
      have kEq : ∀ w1, Rd w1 A3 (strs L) → Rd w1 A (strs L) → Calls Try.prog 24 #[.slice A3 L.length c3, .slice A L.length c] w1 fun e w' => e = .returned (.bool true) ∧ Below w1.heap.size w1 w' :=
        fun w1 h1 h2 => (equal_spec A3 A L L c3 c w1 h1 h2 (by omega) (by omega)).mono fun e w' ⟨a, n, b⟩ => ⟨a.trans (ret_eq (congrArg Value.bool (by simp))), by subst b; exact below_drewN _ _⟩
      have HW := Lib.hid hLw; clear hLw
      go_wp2_with fail
      refine (kEq _ rd3 (hR.below bb)).mono ?_
      clear kEq rd3
      rintro e wc ⟨rfl, b⟩
      have bc := below_up bb b
      have rc := rb.below b
      clear bb b rb
      go_wp2_with fail
      refine (error_spec _ _ _ _ _ rc).mono ?_
      rintro e wd ⟨rfl, rfl⟩
      by_cases hre : rest = []
      · have kE : ∀ w r, Rr w r all a4 0 → Calls Try.prog 27 #[.pointer (some ⟨r, 0, none⟩)] w fun e' w' => e' = .returned (.int .i64 0) ∧ Below w.heap.size w w' :=
          fun w r h => (end_spec r all a4 0 w h).mono fun e w' ⟨a, n, b⟩ => ⟨a.trans (ret_eq (by rw [show endR all a4 0 = 0 from if_neg (by have := HA.out.1; subst hre; simp at this; omega)])), by subst b; exact below_drewN _ _⟩
        have hre2 : rest.isEmpty = true := by simp [hre]
        clear hre
        go_wp2_with fail
        refine (kE _ _ rc).mono ?_
        clear kE
        rintro e we ⟨rfl, b⟩
        have be := below_up bc b
        clear bc b rc
        go_wp2
        go_ret
        refine ⟨ret_eq (congrArg Value.bool (by simp_all)), be⟩
      · have kE : ∀ w r, Rr w r all a4 0 → Calls Try.prog 27 #[.pointer (some ⟨r, 0, none⟩)] w fun e' w' => e' = .returned (.int .i64 9) ∧ Below w.heap.size w w' :=
          fun w r h => (end_spec r all a4 0 w h).mono fun e w' ⟨a, n, b⟩ => ⟨a.trans (ret_eq (by rw [show endR all a4 0 = 9 from if_pos ⟨rfl, by have := HA.out.1; have : 0 < rest.length := List.length_pos_iff.2 hre; omega⟩])), by subst b; exact below_drewN _ _⟩
        have hre2 : rest.isEmpty = false := by simp [hre]
        clear hre
        go_wp2_with fail
        refine (kE _ _ rc).mono ?_
        clear kE
        rintro e we ⟨rfl, b⟩
        have be := below_up bc b
        clear bc b rc
        go_wp2
        go_ret
        refine ⟨ret_eq (congrArg Value.bool (by simp_all)), be⟩
  · rw [decide_eq_false hf] at kFew
    clear hf hw
    go_wp2_with fail
    refine kFew.mono ?_
    rintro e w' ⟨rfl, rfl⟩
    go_wp2
    go_ret
    exact ⟨rfl, b2⟩
end Go.Proofs.Ytalailodnmfmlaa
