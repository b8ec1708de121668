/-
  CodecFails: the walk: the first error of a reader stays, and all later results are zero. Conditions: the string and the calls have bounded length.
-/
import Derived.Test.YtalailodnmfmlaaSame
import Derived.Test.YtalailodnmfmlaaPairs
namespace Go.Proofs.Ytalailodnmfmlaa
set_option linter.unusedVariables false
open Go.RowKit

theorem callR_fail {s : List UInt8} {at_ : Nat} {e kind num : Int} (he : e ≠ 0) : callR s at_ e kind num = ⟨if kind = 6 then e else 0, [], [], at_, e⟩ := by
  unfold callR
  by_cases h6 : kind = 6
  · subst h6; simp [endR, he]
  · simp only [h6, if_false, uintR, intR, textR, countR, textsR, if_pos he, if_neg he]
    split; · rfl
    split; · rfl
    split; · rfl
    split; · rfl
    split; · rfl
    split; · rfl
    rfl

set_option maxRecDepth 20000 in
set_option maxHeartbeats 2000000 in
theorem codecFails_walk (s : List UInt8) (A : Option Addr) (L : List (Int × Int)) (c : Nat) (e : Int) (w : World)
    (hR : Rp w A L) (he0 : 0 ≤ e) (he1 : e ≤ 255) (hsm : s.length ≤ maxLen) (hLm : L.length ≤ maxLen) :
    Calls Try.prog 7 #[.string ⟨s.toArray⟩, .slice A L.length c, .int .u8 e] w fun e w' => e = .returned (.bool true) ∧ Below w.heap.size w w' := by
  unfold maxLen at hsm hLm
  by_cases h1 : 2000 < s.length
  · have h1' : (2000 : Int) < (s.length : Int) := by omega
    clear h1
    go_enter Try.func7, Try.ntmps7
    go_wp2_with fail
    refine (awake_spec _).mono ?_
    rintro e w1 ⟨rfl, b1⟩
    go_wp2
    go_ret
    exact ⟨rfl, b1⟩
  by_cases h2 : 30 < L.length
  · have h1' : (s.length : Int) ≤ 2000 := by omega
    have h2' : (30 : Int) < (L.length : Int) := by omega
    clear h1 h2
    go_enter Try.func7, Try.ntmps7
    go_wp2_with fail
    refine (awake_spec _).mono ?_
    rintro e w1 ⟨rfl, b1⟩
    go_wp2
    go_ret
    exact ⟨rfl, b1⟩
  have h1' : (s.length : Int) ≤ 2000 := by omega
  have h2' : (L.length : Int) ≤ 30 := by omega
  clear h1 h2 hsm hLm
  by_cases h3 : e = 0
  · subst h3
    go_enter Try.func7, Try.ntmps7
    go_wp2_with fail
    refine (awake_spec _).mono ?_
    rintro e w1 ⟨rfl, b1⟩
    go_wp2
    go_ret
    exact ⟨rfl, b1⟩
  have h3' : (e == 0) = false := by rw [beq_eq_false_iff_ne]; exact h3
  have kN := fun w => newReader_spec s w
  have kF : ∀ r w, Rr w r s 0 0 → Calls Try.prog 31 #[.pointer (some ⟨r, 0, none⟩), .int .i64 e] w (MethP r s (.tuple #[]) 0 e w) := fun r w h => fail_spec r s 0 0 e w h
  have kR : ∀ r kind num w, Rr w r s 0 e → Calls Try.prog 30 #[.pointer (some ⟨r, 0, none⟩), .agg #[.int .i64 kind, .int .i64 num]] w (ResP r w.heap.size s ⟨if kind = 6 then e else 0, [], [], 0, e⟩ w) :=
    fun r kind num w h => by have := result_spec r s 0 e kind num w h (by omega) (Nat.zero_le _); rwa [callR_fail h3] at this
  have kE : ∀ r w, Rr w r s 0 e → Calls Try.prog 27 #[.pointer (some ⟨r, 0, none⟩)] w fun e' w' => e' = .returned (.int .i64 e) ∧ Below w.heap.size w w' :=
    fun r w h => (end_spec r s 0 e w h).mono fun e' w' ⟨a, n, b⟩ => ⟨a.trans (ret_eq (by simp [endR, h3])), by subst b; exact below_drewN _ _⟩
  have H3 := Lib.hid h3; clear h3
  go_enter Try.func7, Try.ntmps7
  go_wp2_with fail
  refine (awake_spec _).mono ?_
  rintro e' w1 ⟨rfl, b1⟩
  go_wp2_with fail
  refine (kN _).mono ?_
  clear kN
  rintro e' w2 ⟨rfl, r2, b⟩
  have b2 := below_up b1 b
  have s1 := b1.size
  clear b1 b
  go_wp2_with fail
  go_must (refine (kF _ _ r2).mono ?_)
  clear kF
  rintro e' w3 ⟨rfl, r3, mm⟩
  have b3 := below_step b2 mm (fun i hi he => by omega)
  clear b2 r2 mm
  go_wp2
  go_loopw [35, 9, 10] (fun i _ _ wr => ∃ k : Nat, k ≤ L.length ∧ i = .int .i64 k ∧ Rr wr w1.heap.size s 0 e ∧ Below w.heap.size w wr) (fun i _ _ _ => L.length - (intOf i).toNat)
  case atStart => exact ⟨0, Nat.zero_le _, rfl, r3, b3⟩
  case round =>
    obtain ⟨k, hk, rfl, rr, bel⟩ := hrel
    by_cases hlt : k < L.length
    · obtain ⟨b, off, rfl, hc1, hc2⟩ := (hR.below bel).at hlt
      have hi0 : (0 : Int) ≤ (k : Int) := by omega
      have hi1 : (k : Int) < (L.length : Int) := by omega
      obtain ⟨kind, hkind⟩ : ∃ x, L[k].1 = x := ⟨_, rfl⟩
      obtain ⟨num, hnum⟩ : ∃ x, L[k].2 = x := ⟨_, rfl⟩
      rw [hkind] at hc1
      rw [hnum] at hc2
      have H := Lib.hid (And.intro rr (And.intro bel hR))
      have H0 := Lib.hid (And.intro hkind hnum)
      have rl := Blk.lt rr
      clear hkind hnum rr bel hR b3 r3
      go_wp2_with fail
      refine (kR _ kind num _ (Blk.alloc H.out.1 _)).mono ?_
      clear kR
      rintro e' w4 ⟨v, rfl, ov, r4, mm⟩
      have h9 := (Blk.new wr 51 #[.int .i64 kind, .int .i64 num]).mod mm (fun he => by omega)
      have b4 := below_step (H.out.2.1.alloc H.out.2.1.size _) mm (fun i hi he => by omega)
      clear mm
      obtain ⟨A0, c0, rfl, hc3, hc4⟩ := own_form ov
      have d0 := h9.cell 0
      simp at d0
      have s4 := b4.size
      have r4l := Blk.lt r4
      have s9 : wr.heap.size < w4.heap.size := h9.lt
      have HC := Lib.hid (And.intro hc3 (And.intro hc4 (And.intro ov (And.intro r4 (And.intro b4 h9)))))
      clear hc3 hc4 ov r4 b4 h9
      have kS : ∀ (w : World) (n : Int), n = 0 → Calls Try.prog 29 #[.agg #[.int .i64 n, .string ⟨#[]⟩, .slice A0 0 c0, .int .i64 e], .agg #[.int .i64 0, .string ⟨#[]⟩, .slice none 0 0, .int .i64 e]] w fun e' w' => e' = .returned (.bool true) ∧ Below w.heap.size w w' :=
        fun w n hn => by subst hn; exact same_spec A0 none 0 e [] [] c0 0 w (Rd.nil _ _) (Rd.nil _ _) (by simp)
      by_cases h6 : kind = 6
      · subst h6
        go_wp2_with fail
        refine (kS _ _ (by simp)).mono ?_
        clear kS
        rintro e' w5 ⟨rfl, b⟩
        go_wp2
        go_roundw
        case rel => exact ⟨k + 1, by omega, by go_num, (Blk.alloc HC.out.2.2.2.1 _).below b, below_up (HC.out.2.2.2.2.1.alloc s4 _) b⟩
        case measure => simp [intOf]; omega
      · have h6' : (kind == 6) = false := by rw [beq_eq_false_iff_ne]; exact h6
        rw [if_neg h6]
        clear h6
        go_wp2_with fail
        refine (kS _ _ (by simp)).mono ?_
        clear kS
        rintro e' w5 ⟨rfl, b⟩
        go_wp2
        go_roundw
        case rel => exact ⟨k + 1, by omega, by go_num, (Blk.alloc HC.out.2.2.2.1 _).below b, below_up (HC.out.2.2.2.2.1.alloc s4 _) b⟩
        case measure => simp [intOf]; omega
    · obtain rfl : k = L.length := by omega
      go_wp2_with fail
      refine (kE _ _ rr).mono ?_
      clear kE
      rintro e' w4 ⟨rfl, b⟩
      go_wp2
      go_ret
      exact ⟨rfl, below_up bel b⟩
end Go.Proofs.Ytalailodnmfmlaa
