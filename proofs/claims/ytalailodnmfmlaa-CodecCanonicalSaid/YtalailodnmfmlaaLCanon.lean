/-
  CodecCanonical: the walk: what is read without an error and written again gives the bytes that were read. Conditions: the string and the calls have bounded length.
-/
import Derived.Test.YtalailodnmfmlaaCanMath
import Derived.Test.YtalailodnmfmlaaBuild
import Derived.Test.YtalailodnmfmlaaStrs
import Derived.Test.YtalailodnmfmlaaPairs
namespace Go.Proofs.Ytalailodnmfmlaa
set_option linter.unusedVariables false
open Go.RowKit

theorem Blk.belowB {w w' : World} {B g : Nat} {t : TypeId} {cs : Array Value} (h : Blk w g t cs) (hb : Below B w w') (hg : g < B) : Blk w' g t cs := (hb.block g hg).trans h
theorem take_isPrefix (s : List UInt8) (a : Nat) : (s.take a).isPrefixOf s = true := List.isPrefixOf_iff_prefix.2 (List.take_prefix a s)

set_option maxRecDepth 20000 in
set_option maxHeartbeats 4000000 in
theorem codecCanonical_walk (s : List UInt8) (A : Option Addr) (L : List (Int × Int)) (c : Nat) (w : World)
    (hR : Rp w A L) (hsm : s.length ≤ maxLen) (hLm : L.length ≤ maxLen) :
    Calls Try.prog 9 #[.string ⟨s.toArray⟩, .slice A L.length c] w fun e w' => e = .returned (.bool true) ∧ Below w.heap.size w w' := by
  unfold maxLen at hsm hLm
  by_cases h1: 2000 < s.length
  · have h1' : (2000 : Int) < (s.length : Int) := by omega
    clear h1
    go_enter Try.func9, Try.ntmps9
    go_wp2_with fail
    refine (awake_spec _).mono ?_
    rintro e w1 ⟨rfl, b1⟩
    go_wp2
    go_ret
    exact ⟨rfl, b1⟩
  by_cases h2: 30 < L.length
  · have h1' : (s.length : Int) ≤ 2000 := by omega
    have h2' : (30 : Int) < (L.length : Int) := by omega
    clear h1 h2
    go_enter Try.func9, Try.ntmps9
    go_wp2_with fail
    refine (awake_spec _).mono ?_
    rintro e w1 ⟨rfl, b1⟩
    go_wp2
    go_ret
    exact ⟨rfl, b1⟩
  have h1' : (s.length : Int) ≤ 2000 := by omega
  have h2' : (L.length : Int) ≤ 30 := by omega
  clear h1 h2 hsm hLm
  have kN := fun w => newReader_spec s w
  have kR : ∀ r at_ kind num w, Rr w r s at_ 0 → at_ ≤ s.length → Calls Try.prog 30 #[.pointer (some ⟨r, 0, none⟩), .agg #[.int .i64 kind, .int .i64 num]] w (ResP r w.heap.size s (callR s at_ 0 kind num) w) :=
    fun r at_ kind num w h ha => result_spec r s at_ 0 kind num w h (by omega) ha
  have kP : ∀ (a : Nat) w, Calls Try.prog 33 #[.string ⟨s.toArray⟩, .string ⟨(s.take a).toArray⟩] w fun e w' => e = .returned (.bool true) ∧ w = w' := fun a w =>
    (hasprefix_spec s (s.take a) (by omega) (by simp; omega) w).mono fun e w' ⟨x, y⟩ => ⟨x.trans (ret_eq (congrArg Value.bool (take_isPrefix s a))), y⟩
  have kE : ∀ r at_ e w, Rr w r s at_ e → Calls Try.prog 27 #[.pointer (some ⟨r, 0, none⟩)] w fun e' w' => e' = .returned (.int .i64 (endR s at_ e)) ∧ Below w.heap.size w w' :=
    fun r at_ e w h => (end_spec r s at_ e w h).mono fun e' w' ⟨a, n, b⟩ => ⟨a, by subst b; exact below_drewN _ _⟩
  go_enter Try.func9, Try.ntmps9
  go_wp2_with fail
  refine (awake_spec _).mono ?_
  rintro e' w1 ⟨rfl, b1⟩
  go_wp2_with fail
  refine (kN _).mono ?_
  clear kN
  rintro e' w2 ⟨rfl, r2, b⟩
  have b2 := below_up b1 b
  have s1 := b1.size
  clear b1 b
  have hrB : w1.heap.size < w2.heap.size := Blk.lt r2
  have hwB := b2.size
  go_wp2
  go_loopw [28] (fun i wr => ∃ k at_ : Nat, k ≤ L.length ∧ i = .int .i64 k ∧ at_ ≤ s.length ∧ Rr wr w1.heap.size s at_ 0 ∧ Bu w2.heap.size w2.heap.size (s.take at_) wr ∧ Below w.heap.size w wr ∧ w2.heap.size ≤ wr.heap.size) (fun i _ => L.length - (intOf i).toNat)
  case atStart => exact ⟨0, 0, Nat.zero_le _, rfl, Nat.zero_le _, Blk.alloc r2 _, Bu.new w2, b2.alloc hwB _, by simp⟩
  case round =>
    obtain ⟨k, at_, hk, rfl, hat, rr, bu, bel, szr⟩ := hrel
    by_cases hlt : k < L.length
    · obtain ⟨b, off, rfl, hc1, hc2⟩ := (hR.below bel).at hlt
      have hi0 : (0 : Int) ≤ (k : Int) := by omega
      have hi1 : (k : Int) < (L.length : Int) := by omega
      obtain ⟨kind, hkind⟩ : ∃ x, L[k].1 = x := ⟨_, rfl⟩
      obtain ⟨num, hnum⟩ : ∃ x, L[k].2 = x := ⟨_, rfl⟩
      rw [hkind] at hc1
      rw [hnum] at hc2
      have HR := Lib.hid hR
      have H0 := Lib.hid (And.intro hkind hnum)
      have rl := Blk.lt rr
      clear hkind hnum hR r2 b2
      have kR1 := fun o => kR w1.heap.size at_ kind num (wr.alloc o) (Blk.alloc rr o) hat
      clear kR
      have H := Lib.hid (And.intro rr (And.intro bu bel))
      clear rr bu bel
      go_wp2_with fail
      refine (kR1 _).mono ?_
      clear kR1
      rintro e' w4 ⟨v, rfl, ov, r4, mm⟩
      have h9 := (Blk.new wr 51 #[.int .i64 kind, .int .i64 num]).mod mm (fun he => by omega)
      have b4 := below_step (H.out.2.2.alloc H.out.2.2.size _) mm (fun i hi he => by omega)
      have bu4 := (H.out.2.1.below ((Below.refl _ wr).alloc (Nat.le_refl _) _)).mod mm (fun i hi he => by omega)
      have s4B : w2.heap.size ≤ w4.heap.size := by have := mm.size; simp at this; omega
      clear mm
      have rd4 : ∀ A0 n0 c0, v = .slice A0 n0 c0 → n0 = (callR s at_ 0 kind num).list.length → Rd w4 A0 (strs (callR s at_ 0 kind num).list) := by
        intro A0 n0 c0 hv hn; subst hv hn; exact Rd.of_own ov
      obtain ⟨A0, c0, rfl, hc3, hc4⟩ := own_form ov
      have rd4 := rd4 _ _ _ rfl rfl
      have d0 := h9.cell 0
      simp at d0
      have s4 := b4.size
      have r4l := Blk.lt r4
      have s9 : wr.heap.size < w4.heap.size := h9.lt
      clear hc3 hc4 ov h9
      by_cases herr : (callR s at_ 0 kind num).err = 0
      · by_cases q0 : kind = 0
        · subst q0
          obtain ⟨n, next, hx, hn, ht, hle⟩ := can_uint hat herr
          rw [hx] at r4 rd4 ⊢
          simp only at r4 rd4
          have hlen : (s.take at_).length + (Cd.uns n).length ≤ 140737488355328 := by have := congrArg List.length ht; rw [List.length_append] at this; rw [← this, List.length_take]; omega
          have HT := Lib.hid (And.intro ht (And.intro hx herr))
          clear ht hx herr
          have HL := Lib.hid hlen
          clear hlen
          go_wp2_with fail
          refine (error_spec _ _ _ _ _ (Blk.alloc r4 _)).mono ?_
          rintro e' wx ⟨rfl, rfl⟩
          go_wp2_with fail
          refine (uint_pos n hn _).mono ?_
          rintro e' w5 ⟨rfl, b5⟩
          have r5 := (Blk.alloc r4 _).below b5
          have bel5 := below_up (b4.alloc s4 _) b5
          have bu5 := (bu4.below ((Below.refl _ w4).alloc (Nat.le_refl _) _)).below b5
          have s5 : w2.heap.size ≤ w5.heap.size := by have := b5.size; simp at this; omega
          clear r4 b4 bu4 b5
          go_wp2_with fail
          refine (bu_write _ _ _ _ _ bu5 HL.out s5).mono ?_
          rintro e' w6 ⟨rfl, bu6, b6⟩
          go_wp2
          go_roundw
          case rel => exact ⟨k + 1, next, by omega, by go_num, hle, Blk.belowB r5 b6 hrB, by rw [HT.out.1]; exact bu6, bel5.trans (b6.mono hwB), Nat.le_trans s5 b6.size⟩
          case measure => simp [intOf]; omega
        by_cases q3 : kind = 3
        · subst q3
          obtain ⟨n, next, hx, hn, ht, hle⟩ := can_count hat herr
          rw [hx] at r4 rd4 ⊢
          simp only at r4 rd4
          have hlen : (s.take at_).length + (Cd.uns n).length ≤ 140737488355328 := by have := congrArg List.length ht; rw [List.length_append] at this; rw [← this, List.length_take]; omega
          have HT := Lib.hid (And.intro ht (And.intro hx herr))
          clear ht hx herr
          have HL := Lib.hid hlen
          clear hlen
          go_wp2_with fail
          refine (error_spec _ _ _ _ _ (Blk.alloc r4 _)).mono ?_
          rintro e' wx ⟨rfl, rfl⟩
          go_wp2_with fail
          refine (uint_pos n hn _).mono ?_
          rintro e' w5 ⟨rfl, b5⟩
          have r5 := (Blk.alloc r4 _).below b5
          have bel5 := below_up (b4.alloc s4 _) b5
          have bu5 := (bu4.below ((Below.refl _ w4).alloc (Nat.le_refl _) _)).below b5
          have s5 : w2.heap.size ≤ w5.heap.size := by have := b5.size; simp at this; omega
          clear r4 b4 bu4 b5
          go_wp2_with fail
          refine (bu_write _ _ _ _ _ bu5 HL.out s5).mono ?_
          rintro e' w6 ⟨rfl, bu6, b6⟩
          go_wp2
          go_roundw
          case rel => exact ⟨k + 1, next, by omega, by go_num, hle, Blk.belowB r5 b6 hrB, by rw [HT.out.1]; exact bu6, bel5.trans (b6.mono hwB), Nat.le_trans s5 b6.size⟩
          case measure => simp [intOf]; omega
        by_cases q1 : kind = 1
        · subst q1
          obtain ⟨n, next, hx, hn0, hn1, ht, hle⟩ := can_int hat herr
          rw [hx] at r4 rd4 ⊢
          simp only at r4 rd4
          have hlen : (s.take at_).length + (Cd.int n).length ≤ 140737488355328 := by have := congrArg List.length ht; rw [List.length_append] at this; rw [← this, List.length_take]; omega
          have HT := Lib.hid (And.intro ht (And.intro hx herr))
          clear ht hx herr
          have HL := Lib.hid hlen
          clear hlen
          go_wp2_with fail
          refine (error_spec _ _ _ _ _ (Blk.alloc r4 _)).mono ?_
          rintro e' wx ⟨rfl, rfl⟩
          go_wp2_with fail
          refine (int_spec n hn0 hn1 _).mono ?_
          rintro e' w5 ⟨rfl, b5⟩
          have r5 := (Blk.alloc r4 _).below b5
          have bel5 := below_up (b4.alloc s4 _) b5
          have bu5 := (bu4.below ((Below.refl _ w4).alloc (Nat.le_refl _) _)).below b5
          have s5 : w2.heap.size ≤ w5.heap.size := by have := b5.size; simp at this; omega
          clear r4 b4 bu4 b5
          go_wp2_with fail
          refine (bu_write _ _ _ _ _ bu5 HL.out s5).mono ?_
          rintro e' w6 ⟨rfl, bu6, b6⟩
          go_wp2
          go_roundw
          case rel => exact ⟨k + 1, next, by omega, by go_num, hle, Blk.belowB r5 b6 hrB, by rw [HT.out.1]; exact bu6, bel5.trans (b6.mono hwB), Nat.le_trans s5 b6.size⟩
          case measure => simp [intOf]; omega
        by_cases q2 : kind = 2
        · subst q2
          obtain ⟨x, next, hx, hn, ht, hle⟩ := can_text hat herr
          rw [hx] at r4 rd4 ⊢
          simp only at r4 rd4
          have hlen : (s.take at_).length + (Cd.text x).length ≤ 140737488355328 := by have := congrArg List.length ht; rw [List.length_append] at this; rw [← this, List.length_take]; omega
          have HT := Lib.hid (And.intro ht (And.intro hx herr))
          clear ht hx herr
          have HL := Lib.hid hlen
          clear hlen
          go_wp2_with fail
          refine (error_spec _ _ _ _ _ (Blk.alloc r4 _)).mono ?_
          rintro e' wx ⟨rfl, rfl⟩
          go_wp2_with fail
          refine (text_spec x (by omega) _).mono ?_
          rintro e' w5 ⟨rfl, b5⟩
          have r5 := (Blk.alloc r4 _).below b5
          have bel5 := below_up (b4.alloc s4 _) b5
          have bu5 := (bu4.below ((Below.refl _ w4).alloc (Nat.le_refl _) _)).below b5
          have s5 : w2.heap.size ≤ w5.heap.size := by have := b5.size; simp at this; omega
          clear r4 b4 bu4 b5
          go_wp2_with fail
          refine (bu_write _ _ _ _ _ bu5 HL.out s5).mono ?_
          rintro e' w6 ⟨rfl, bu6, b6⟩
          go_wp2
          go_roundw
          case rel => exact ⟨k + 1, next, by omega, by go_num, hle, Blk.belowB r5 b6 hrB, by rw [HT.out.1]; exact bu6, bel5.trans (b6.mono hwB), Nat.le_trans s5 b6.size⟩
          case measure => simp [intOf]; omega
        by_cases q4 : kind = 4
        · subst q4
          obtain ⟨M, next, hx, hm1, hm2, ht, hle⟩ := can_texts hat herr
          rw [hx] at r4 rd4 ⊢
          simp only at r4 rd4
          have hlen : (s.take at_).length + (Cd.texts M).length ≤ 140737488355328 := by have := congrArg List.length ht; rw [List.length_append] at this; rw [← this, List.length_take]; omega
          have HT := Lib.hid (And.intro ht (And.intro hx herr))
          clear ht hx herr
          have HL := Lib.hid hlen
          clear hlen
          go_wp2_with fail
          refine (error_spec _ _ _ _ _ (Blk.alloc r4 _)).mono ?_
          rintro e' wx ⟨rfl, rfl⟩
          go_wp2_with fail
          refine (texts_spec A0 M c0 _ (rd4.alloc _) (by omega) (by omega)).mono ?_
          rintro e' w5 ⟨rfl, b5⟩
          have r5 := (Blk.alloc r4 _).below b5
          have bel5 := below_up (b4.alloc s4 _) b5
          have bu5 := (bu4.below ((Below.refl _ w4).alloc (Nat.le_refl _) _)).below b5
          have s5 : w2.heap.size ≤ w5.heap.size := by have := b5.size; simp at this; omega
          clear r4 b4 bu4 b5
          go_wp2_with fail
          refine (bu_write _ _ _ _ _ bu5 HL.out s5).mono ?_
          rintro e' w6 ⟨rfl, bu6, b6⟩
          go_wp2
          go_roundw
          case rel => exact ⟨k + 1, next, by omega, by go_num, hle, Blk.belowB r5 b6 hrB, by rw [HT.out.1]; exact bu6, bel5.trans (b6.mono hwB), Nat.le_trans s5 b6.size⟩
          case measure => simp [intOf]; omega
        have hoff := can_else q0 q1 q2 q3 q4 herr
        have z0 : (kind == 0) = false := by rw [beq_eq_false_iff_ne]; exact q0
        have z1 : (kind == 1) = false := by rw [beq_eq_false_iff_ne]; exact q1
        have z2 : (kind == 2) = false := by rw [beq_eq_false_iff_ne]; exact q2
        have z3 : (kind == 3) = false := by rw [beq_eq_false_iff_ne]; exact q3
        have z4 : (kind == 4) = false := by rw [beq_eq_false_iff_ne]; exact q4
        clear q0 q1 q2 q3 q4
        rw [hoff, herr] at r4
        rw [herr]
        clear hoff rd4
        obtain ⟨a, ha⟩ : ∃ a, callR s at_ 0 kind num = a := ⟨_, rfl⟩
        rw [ha]
        clear ha herr
        go_wp2_with fail
        refine (error_spec _ _ _ _ _ (Blk.alloc r4 _)).mono ?_
        rintro e' wx ⟨rfl, rfl⟩
        go_wp2
        go_roundw
        case rel => exact ⟨k + 1, at_, by omega, by go_num, hat, Blk.alloc r4 _, bu4.below ((Below.refl _ w4).alloc (Nat.le_refl _) _), b4.alloc s4 _, by simp; omega⟩
        case measure => simp [intOf]; omega
      · obtain ⟨a, ha⟩ : ∃ a, callR s at_ 0 kind num = a := ⟨_, rfl⟩
        rw [ha] at r4 herr ⊢
        have z0 : (a.err == 0) = false := by rw [beq_eq_false_iff_ne]; exact herr
        have z1 : (a.err != 0) = true := by simpa using herr
        have kE1 : ∀ w, Rr w w1.heap.size s a.off a.err → Calls Try.prog 27 #[.pointer (some ⟨w1.heap.size, 0, none⟩)] w fun e' w' => e' = .returned (.int .i64 a.err) ∧ Below w.heap.size w w' :=
          fun w h => by have := kE _ _ _ w h; rwa [show endR s a.off a.err = a.err from by simp [endR, herr]] at this
        clear ha herr rd4 kE
        go_wp2_with fail
        refine (error_spec _ _ _ _ _ (Blk.alloc r4 _)).mono ?_
        rintro e' wx ⟨rfl, rfl⟩
        have b7 := b4.alloc s4
        go_wp2_with fail
        refine (bu_string _ _ _ _ (bu4.below ((Below.refl _ w4).alloc (Nat.le_refl _) _)) (by simp; omega)).mono ?_
        rintro e' wx ⟨rfl, bux, bx⟩
        have rx := Blk.belowB (Blk.alloc r4 _) bx hrB
        have bex := (b4.alloc s4 _).trans (bx.mono hwB)
        go_wp2_with fail
        refine (kP _ _).mono ?_
        rintro e' wy ⟨rfl, rfl⟩
        go_wp2_with fail
        refine (kE1 _ rx).mono ?_
        rintro e' wz ⟨rfl, bz⟩
        go_wp2
        go_ret
        exact ⟨rfl, below_up bex bz⟩
    · obtain rfl : k = L.length := by omega
      by_cases hend : at_ < s.length
      · have kE2 : ∀ w, Rr w w1.heap.size s at_ 0 → Calls Try.prog 27 #[.pointer (some ⟨w1.heap.size, 0, none⟩)] w fun e' w' => e' = .returned (.int .i64 9) ∧ Below w.heap.size w w' :=
          fun w h => by have := kE _ _ _ w h; rwa [show endR s at_ 0 = 9 from by simp [endR, hend]] at this
        clear kE hend kR
        go_wp2_with fail
        refine (bu_string _ _ _ _ bu szr).mono ?_
        rintro e' wx ⟨rfl, bux, bx⟩
        have rx := Blk.belowB rr bx hrB
        have bex := bel.trans (bx.mono hwB)
        go_wp2_with fail
        refine (kP _ _).mono ?_
        rintro e' wy ⟨rfl, rfl⟩
        go_wp2_with fail
        refine (kE2 _ rx).mono ?_
        rintro e' wz ⟨rfl, bz⟩
        go_wp2
        go_ret
        exact ⟨rfl, below_up bex bz⟩
      · obtain rfl : at_ = s.length := by omega
        have kE3 : ∀ w, Rr w w1.heap.size s s.length 0 → Calls Try.prog 27 #[.pointer (some ⟨w1.heap.size, 0, none⟩)] w fun e' w' => e' = .returned (.int .i64 0) ∧ Below w.heap.size w w' :=
          fun w h => by have := kE _ _ _ w h; rwa [show endR s s.length 0 = 0 from by simp [endR]] at this
        have kP := kP s.length
        rw [List.take_length] at bu kP
        have kP : ∀ (_ : Nat) w, _ := fun _ => kP
        clear kE hend kR
        go_wp2_with fail
        refine (bu_string _ _ _ _ bu szr).mono ?_
        rintro e' wx ⟨rfl, bux, bx⟩
        have rx := Blk.belowB rr bx hrB
        have bex := bel.trans (bx.mono hwB)
        have sx := Nat.le_trans (show w2.heap.size ≤ _ from szr) bx.size
        go_wp2_with fail
        refine (kP 0 _).mono ?_
        rintro e' wy ⟨rfl, rfl⟩
        go_wp2_with fail
        refine (kE3 _ rx).mono ?_
        rintro e' wz ⟨rfl, bz⟩
        have buz := bux.below bz
        have bez := below_up bex bz
        have sz := Nat.le_trans sx bz.size
        go_wp2_with fail
        refine (bu_string _ _ _ _ buz sz).mono ?_
        rintro e' wv ⟨rfl, buv, bv⟩
        go_wp2
        go_ret
        exact ⟨ret_eq (congrArg Value.bool (by simp)), bez.trans (bv.mono hwB)⟩
end Go.Proofs.Ytalailodnmfmlaa
