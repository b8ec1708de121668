/-
  modcertref02.Read: the answers of calls. Conditions: the string has at most 2^40 bytes, there are at most 30 calls.
-/
import Derived.Test.YtalailodnmfmlaaResL
import Derived.Test.YtalailodnmfmlaaLFails
namespace Go.Proofs.Ytalailodnmfmlaa
set_option linter.unusedVariables false
open Go.RowKit

theorem info_res : (Try.prog.info? 47).map (fun i => (i.zero, i.size, i.bytes)) = some (some (.agg #[.int .i64 0, .string ⟨#[]⟩, .slice none 0 0, .int .i64 0]), 4, 56) := by kernel_rfl

theorem read_next {s : List UInt8} {L : List (Int × Int)} {k at_ : Nat} {er kind num : Int} (hlt : k < L.length) (h : endS s 0 0 (L.take k) = (at_, er)) (hk : L[k].1 = kind) (hn : L[k].2 = num) :
    endS s 0 0 (L.take (k + 1)) = ((callR s at_ er kind num).off, (callR s at_ er kind num).err) ∧ runR s 0 0 (L.take (k + 1)) = runR s 0 0 (L.take k) ++ [callR s at_ er kind num] := by
  rw [List.take_succ_eq_append_getElem hlt, endS_snoc, runR_snoc, h, hk, hn]
  exact ⟨rfl, rfl⟩

set_option maxRecDepth 20000 in
set_option maxHeartbeats 4000000 in
theorem read_ref (s : List UInt8) (A : Option Addr) (L : List (Int × Int)) (c : Nat) (w : World) (hR : Rp w A L) (hs : s.length ≤ 1099511627776) (hL : (L.length : Int) ≤ 30) :
    Calls Try.prog 28 #[.string ⟨s.toArray⟩, .slice A L.length c] w fun e w' => ∃ v cs, e = .returned v ∧ w'.ownsRow w.heap.size 47 4 v L.length cs ∧ ResL w' w.heap.size (runR s 0 0 L) cs ∧ Below w.heap.size w w' := by
  go_enter Try.func28, Try.ntmps28
  go_wp2
  go_loopw [8, 5, 6, 7] (fun i v a e wr => ∃ (k at_ : Nat) (er : Int) (cs : List Value), k ≤ L.length ∧ i = .int .i64 k ∧ a = .int .i64 at_ ∧ e = .int .i64 er ∧ at_ ≤ s.length ∧ endS s 0 0 (L.take k) = (at_, er) ∧ wr.ownsRow w.heap.size 47 4 v k cs ∧ ResL wr w.heap.size (runR s 0 0 (L.take k)) cs ∧ Below w.heap.size w wr) (fun i _ _ _ _ => L.length - (intOf i).toNat)
  case atStart => exact ⟨0, 0, 0, [], Nat.zero_le _, rfl, rfl, rfl, Nat.zero_le _, rfl, World.ownsRow_lit w #[] 0 (Nat.le_refl _) (by decide) rfl, .nil, (Below.refl _ w).alloc (Nat.le_refl _) _⟩
  case round =>
    obtain ⟨k, at_, er, cs, hk, rfl, rfl, rfl, hat, hst, hown, hres, bel⟩ := hrel
    by_cases hlt : k < L.length
    · obtain ⟨b, off, rfl, hc1, hc2⟩ := (hR.below bel).at hlt
      have hi0 : (0 : Int) ≤ (k : Int) := by omega
      have hi1 : (k : Int) < (L.length : Int) := by omega
      obtain ⟨kind, hkind⟩ : ∃ x, L[k].1 = x := ⟨_, rfl⟩
      obtain ⟨num, hnum⟩ : ∃ x, L[k].2 = x := ⟨_, rfl⟩
      rw [hkind] at hc1
      rw [hnum] at hc2
      have szw := bel.size
      obtain ⟨A1, c1, rfl, hcc1, hcc2⟩ := own_form hown
      have H := Lib.hid (And.intro hst (And.intro hown (And.intro hres (And.intro bel (And.intro hkind hnum)))))
      clear hkind hnum hst hown hres bel hR
      have hb3 : Below wr.heap.size wr wr := Below.refl _ _
      by_cases he : er = 0
      · subst he
        by_cases q5 : kind = 5
        · subst q5
          go_wp2_with (at_builtin; go_must (refine append4 _ 44 47 (.agg #[.int .i64 0, .string ⟨#[]⟩, .slice none 0 0, .int .i64 0]) 56 w.heap.size Try.underlying44 info_res rfl rfl _ _ rfl (.slice A1 k c1) k cs (.int .i64 0) (.string ⟨#[]⟩) (.slice none 0 0) (.int .i64 num) _ (below_owns (((hb3.alloc (Nat.le_refl _) _).alloc (by simp) _).alloc (by simp; omega) _) H.out.2.1) rfl rfl (blk3 wr _ _ _ _) (by simp [Value.oneCell']) (by omega) (by unfold maxLen; omega) (by simp; omega) ?_); intro v' w6 hown6 hg6)
          go_roundw
          case rel =>
            obtain ⟨n1, n2⟩ := read_next hlt H.out.1 H.out.2.2.2.2.1 H.out.2.2.2.2.2
            rw [show callR s at_ 0 5 num = ⟨0, [], [], at_, num⟩ from by simp [callR]] at n1 n2
            have own5 := below_owns (((hb3.alloc (Nat.le_refl _) (.cells #[.int .i64 5, .int .i64 num] 51)).alloc (by simp) (.cells #[.int .i64 0, .string ⟨#[]⟩, .slice none 0 0, .int .i64 num] 47)).alloc (by simp; omega) (.cells #[.int .i64 0, .string ⟨#[]⟩, .slice none 0 0, .int .i64 num] 47)) H.out.2.1
            refine ⟨k + 1, at_, _, _, by omega, by go_num, rfl, rfl, hat, n1, hown6, ?_, ?_⟩
            · rw [n2]
              exact ((H.out.2.2.1.under (((hb3.alloc (Nat.le_refl _) _).alloc (by simp) _).alloc (by simp; omega) _)).snoc (World.ownsRow_nil _ _ _ _)).grown own5 hg6
            · exact (below_up H.out.2.2.2.1 (((hb3.alloc (Nat.le_refl _) _).alloc (by simp) _).alloc (by simp; omega) _)).grown hg6 (by simp; omega) (fun k hk => (H.out.2.1.lt k hk).1)
          case measure => simp [intOf]; omega
        by_cases q6 : kind = 6
        · subst q6
          by_cases hend : at_ = s.length
          · have zz : ((at_ : Int) != (s.length : Int)) = false := by simp [hend]
            have HD := Lib.hid hend; clear hend
            go_wp2_with (at_builtin; go_must (refine append4 _ 44 47 (.agg #[.int .i64 0, .string ⟨#[]⟩, .slice none 0 0, .int .i64 0]) 56 w.heap.size Try.underlying44 info_res rfl rfl _ _ rfl (.slice A1 k c1) k cs (.int .i64 0) (.string ⟨#[]⟩) (.slice none 0 0) (.int .i64 0) _ (below_owns (((hb3.alloc (Nat.le_refl _) _).alloc (by simp) _).alloc (by simp; omega) _) H.out.2.1) rfl rfl (blk3 wr _ _ _ _) (by simp [Value.oneCell']) (by omega) (by unfold maxLen; omega) (by simp; omega) ?_); intro v' w6 hown6 hg6)
            go_roundw
            case rel =>
              obtain ⟨n1, n2⟩ := read_next hlt H.out.1 H.out.2.2.2.2.1 H.out.2.2.2.2.2
              rw [show callR s at_ 0 6 num = ⟨0, [], [], at_, 0⟩ from by simp [callR, endR, HD.out]] at n1 n2
              have own5 := below_owns (((hb3.alloc (Nat.le_refl _) (.cells #[.int .i64 6, .int .i64 num] 51)).alloc (by simp) (.cells #[.int .i64 0, .string ⟨#[]⟩, .slice none 0 0, .int .i64 0] 47)).alloc (by simp; omega) (.cells #[.int .i64 0, .string ⟨#[]⟩, .slice none 0 0, .int .i64 0] 47)) H.out.2.1
              refine ⟨k + 1, at_, _, _, by omega, by go_num, rfl, rfl, hat, n1, hown6, ?_, ?_⟩
              · rw [n2]
                exact ((H.out.2.2.1.under (((hb3.alloc (Nat.le_refl _) _).alloc (by simp) _).alloc (by simp; omega) _)).snoc (World.ownsRow_nil _ _ _ _)).grown own5 hg6
              · exact (below_up H.out.2.2.2.1 (((hb3.alloc (Nat.le_refl _) _).alloc (by simp) _).alloc (by simp; omega) _)).grown hg6 (by simp; omega) (fun k hk => (H.out.2.1.lt k hk).1)
            case measure => simp [intOf]; omega
          · have zz : ((at_ : Int) != (s.length : Int)) = true := by simp; omega
            have HD := Lib.hid hend; clear hend
            go_wp2_with (at_builtin; go_must (refine append4 _ 44 47 (.agg #[.int .i64 0, .string ⟨#[]⟩, .slice none 0 0, .int .i64 0]) 56 w.heap.size Try.underlying44 info_res rfl rfl _ _ rfl (.slice A1 k c1) k cs (.int .i64 9) (.string ⟨#[]⟩) (.slice none 0 0) (.int .i64 0) _ (below_owns (((hb3.alloc (Nat.le_refl _) _).alloc (by simp) _).alloc (by simp; omega) _) H.out.2.1) rfl rfl (blk3 wr _ _ _ _) (by simp [Value.oneCell']) (by omega) (by unfold maxLen; omega) (by simp; omega) ?_); intro v' w6 hown6 hg6)
            go_roundw
            case rel =>
              obtain ⟨n1, n2⟩ := read_next hlt H.out.1 H.out.2.2.2.2.1 H.out.2.2.2.2.2
              rw [show callR s at_ 0 6 num = ⟨9, [], [], at_, 0⟩ from by simp [callR, endR]; have := HD.out; omega] at n1 n2
              have own5 := below_owns (((hb3.alloc (Nat.le_refl _) (.cells #[.int .i64 6, .int .i64 num] 51)).alloc (by simp) (.cells #[.int .i64 9, .string ⟨#[]⟩, .slice none 0 0, .int .i64 0] 47)).alloc (by simp; omega) (.cells #[.int .i64 9, .string ⟨#[]⟩, .slice none 0 0, .int .i64 0] 47)) H.out.2.1
              refine ⟨k + 1, at_, _, _, by omega, by go_num, rfl, rfl, hat, n1, hown6, ?_, ?_⟩
              · rw [n2]
                exact ((H.out.2.2.1.under (((hb3.alloc (Nat.le_refl _) _).alloc (by simp) _).alloc (by simp; omega) _)).snoc (World.ownsRow_nil _ _ _ _)).grown own5 hg6
              · exact (below_up H.out.2.2.2.1 (((hb3.alloc (Nat.le_refl _) _).alloc (by simp) _).alloc (by simp; omega) _)).grown hg6 (by simp; omega) (fun k hk => (H.out.2.1.lt k hk).1)
            case measure => simp [intOf]; omega
        by_cases q0 : kind = 0
        · subst q0
          have hz := readUint_ref s at_ ((wr.alloc (.cells #[.int .i64 0, .int .i64 num] 51)).alloc (.cells #[.int .i64 0, .string ⟨#[]⟩, .slice none 0 0, .int .i64 0] 47)) hs hat
          cases hu : Cd.readUint s at_ with
          | none =>
            rw [hu] at hz
            have HU := Lib.hid hu; clear hu
            go_wp2_with fail
            refine hz.mono ?_
            rintro e' wq ⟨hq, rfl⟩
            obtain rfl := hq
            clear hz
            go_wp2_with (at_builtin; go_must (refine append4 _ 44 47 (.agg #[.int .i64 0, .string ⟨#[]⟩, .slice none 0 0, .int .i64 0]) 56 w.heap.size Try.underlying44 info_res rfl rfl _ _ rfl (.slice A1 k c1) k cs (.int .i64 0) (.string ⟨#[]⟩) (.slice none 0 0) (.int .i64 9) _ (below_owns (((hb3.alloc (Nat.le_refl _) _).alloc (by simp) _).alloc (by simp; omega) _) H.out.2.1) rfl rfl (blk3 wr _ _ _ _) (by simp [Value.oneCell']) (by omega) (by unfold maxLen; omega) (by simp; omega) ?_); intro v' w6 hown6 hg6)
            go_roundw
            case rel =>
              obtain ⟨n1, n2⟩ := read_next hlt H.out.1 H.out.2.2.2.2.1 H.out.2.2.2.2.2
              rw [show callR s at_ 0 0 num = ⟨0, [], [], at_, 9⟩ from by simp [callR, uintR, HU.out]] at n1 n2
              have own5 := below_owns (((hb3.alloc (Nat.le_refl _) (.cells #[.int .i64 0, .int .i64 num] 51)).alloc (by simp) (.cells #[.int .i64 0, .string ⟨#[]⟩, .slice none 0 0, .int .i64 9] 47)).alloc (by simp; omega) (.cells #[.int .i64 0, .string ⟨#[]⟩, .slice none 0 0, .int .i64 9] 47)) H.out.2.1
              refine ⟨k + 1, at_, _, _, by omega, by go_num, rfl, rfl, hat, n1, hown6, ?_, ?_⟩
              · rw [n2]
                exact ((H.out.2.2.1.under (((hb3.alloc (Nat.le_refl _) _).alloc (by simp) _).alloc (by simp; omega) _)).snoc (World.ownsRow_nil _ _ _ _)).grown own5 hg6
              · exact (below_up H.out.2.2.2.1 (((hb3.alloc (Nat.le_refl _) _).alloc (by simp) _).alloc (by simp; omega) _)).grown hg6 (by simp; omega) (fun k hk => (H.out.2.1.lt k hk).1)
            case measure => simp [intOf]; omega
          | some q =>
            obtain ⟨n, next⟩ := q
            have hle : next ≤ s.length := by have := uintR_le (s := s) (at_ := at_) (e := 0) hat; rw [show (uintR s at_ 0).2.1 = next from by simp [uintR, hu]] at this; exact this
            rw [hu] at hz
            have HU := Lib.hid hu; clear hu
            go_wp2_with fail
            refine hz.mono ?_
            rintro e' wq ⟨hq, rfl⟩
            obtain rfl := hq
            clear hz
            go_wp2_with (at_builtin; go_must (refine append4 _ 44 47 (.agg #[.int .i64 0, .string ⟨#[]⟩, .slice none 0 0, .int .i64 0]) 56 w.heap.size Try.underlying44 info_res rfl rfl _ _ rfl (.slice A1 k c1) k cs (.int .i64 (n : Nat)) (.string ⟨#[]⟩) (.slice none 0 0) (.int .i64 0) _ (below_owns (((hb3.alloc (Nat.le_refl _) _).alloc (by simp) _).alloc (by simp; omega) _) H.out.2.1) rfl rfl (blk3 wr _ _ _ _) (by simp [Value.oneCell']) (by omega) (by unfold maxLen; omega) (by simp; omega) ?_); intro v' w6 hown6 hg6)
            go_roundw
            case rel =>
              obtain ⟨n1, n2⟩ := read_next hlt H.out.1 H.out.2.2.2.2.1 H.out.2.2.2.2.2
              rw [show callR s at_ 0 0 num = ⟨(n : Nat), [], [], next, 0⟩ from by simp [callR, uintR, HU.out]] at n1 n2
              have own5 := below_owns (((hb3.alloc (Nat.le_refl _) (.cells #[.int .i64 0, .int .i64 num] 51)).alloc (by simp) (.cells #[.int .i64 (n : Nat), .string ⟨#[]⟩, .slice none 0 0, .int .i64 0] 47)).alloc (by simp; omega) (.cells #[.int .i64 (n : Nat), .string ⟨#[]⟩, .slice none 0 0, .int .i64 0] 47)) H.out.2.1
              refine ⟨k + 1, next, _, _, by omega, by go_num, rfl, rfl, hle, n1, hown6, ?_, ?_⟩
              · rw [n2]
                exact ((H.out.2.2.1.under (((hb3.alloc (Nat.le_refl _) _).alloc (by simp) _).alloc (by simp; omega) _)).snoc (World.ownsRow_nil _ _ _ _)).grown own5 hg6
              · exact (below_up H.out.2.2.2.1 (((hb3.alloc (Nat.le_refl _) _).alloc (by simp) _).alloc (by simp; omega) _)).grown hg6 (by simp; omega) (fun k hk => (H.out.2.1.lt k hk).1)
            case measure => simp [intOf]; omega
        by_cases q1 : kind = 1
        · subst q1
          have hz := readInt_ref s at_ ((wr.alloc (.cells #[.int .i64 1, .int .i64 num] 51)).alloc (.cells #[.int .i64 0, .string ⟨#[]⟩, .slice none 0 0, .int .i64 0] 47)) hs hat
          cases hu : Cd.readInt s at_ with
          | none =>
            rw [hu] at hz
            have HU := Lib.hid hu; clear hu
            go_wp2_with fail
            refine hz.mono ?_
            rintro e' wq ⟨hq, rfl⟩
            obtain rfl := hq
            clear hz
            go_wp2_with (at_builtin; go_must (refine append4 _ 44 47 (.agg #[.int .i64 0, .string ⟨#[]⟩, .slice none 0 0, .int .i64 0]) 56 w.heap.size Try.underlying44 info_res rfl rfl _ _ rfl (.slice A1 k c1) k cs (.int .i64 0) (.string ⟨#[]⟩) (.slice none 0 0) (.int .i64 9) _ (below_owns (((hb3.alloc (Nat.le_refl _) _).alloc (by simp) _).alloc (by simp; omega) _) H.out.2.1) rfl rfl (blk3 wr _ _ _ _) (by simp [Value.oneCell']) (by omega) (by unfold maxLen; omega) (by simp; omega) ?_); intro v' w6 hown6 hg6)
            go_roundw
            case rel =>
              obtain ⟨n1, n2⟩ := read_next hlt H.out.1 H.out.2.2.2.2.1 H.out.2.2.2.2.2
              rw [show callR s at_ 0 1 num = ⟨0, [], [], at_, 9⟩ from by simp [callR, intR, HU.out]] at n1 n2
              have own5 := below_owns (((hb3.alloc (Nat.le_refl _) (.cells #[.int .i64 1, .int .i64 num] 51)).alloc (by simp) (.cells #[.int .i64 0, .string ⟨#[]⟩, .slice none 0 0, .int .i64 9] 47)).alloc (by simp; omega) (.cells #[.int .i64 0, .string ⟨#[]⟩, .slice none 0 0, .int .i64 9] 47)) H.out.2.1
              refine ⟨k + 1, at_, _, _, by omega, by go_num, rfl, rfl, hat, n1, hown6, ?_, ?_⟩
              · rw [n2]
                exact ((H.out.2.2.1.under (((hb3.alloc (Nat.le_refl _) _).alloc (by simp) _).alloc (by simp; omega) _)).snoc (World.ownsRow_nil _ _ _ _)).grown own5 hg6
              · exact (below_up H.out.2.2.2.1 (((hb3.alloc (Nat.le_refl _) _).alloc (by simp) _).alloc (by simp; omega) _)).grown hg6 (by simp; omega) (fun k hk => (H.out.2.1.lt k hk).1)
            case measure => simp [intOf]; omega
          | some q =>
            obtain ⟨n, next⟩ := q
            have hle : next ≤ s.length := by have := intR_le (s := s) (at_ := at_) (e := 0) hat; rw [show (intR s at_ 0).2.1 = next from by simp [intR, hu]] at this; exact this
            rw [hu] at hz
            have HU := Lib.hid hu; clear hu
            go_wp2_with fail
            refine hz.mono ?_
            rintro e' wq ⟨hq, rfl⟩
            obtain rfl := hq
            clear hz
            go_wp2_with (at_builtin; go_must (refine append4 _ 44 47 (.agg #[.int .i64 0, .string ⟨#[]⟩, .slice none 0 0, .int .i64 0]) 56 w.heap.size Try.underlying44 info_res rfl rfl _ _ rfl (.slice A1 k c1) k cs (.int .i64 n) (.string ⟨#[]⟩) (.slice none 0 0) (.int .i64 0) _ (below_owns (((hb3.alloc (Nat.le_refl _) _).alloc (by simp) _).alloc (by simp; omega) _) H.out.2.1) rfl rfl (blk3 wr _ _ _ _) (by simp [Value.oneCell']) (by omega) (by unfold maxLen; omega) (by simp; omega) ?_); intro v' w6 hown6 hg6)
            go_roundw
            case rel =>
              obtain ⟨n1, n2⟩ := read_next hlt H.out.1 H.out.2.2.2.2.1 H.out.2.2.2.2.2
              rw [show callR s at_ 0 1 num = ⟨n, [], [], next, 0⟩ from by simp [callR, intR, HU.out]] at n1 n2
              have own5 := below_owns (((hb3.alloc (Nat.le_refl _) (.cells #[.int .i64 1, .int .i64 num] 51)).alloc (by simp) (.cells #[.int .i64 n, .string ⟨#[]⟩, .slice none 0 0, .int .i64 0] 47)).alloc (by simp; omega) (.cells #[.int .i64 n, .string ⟨#[]⟩, .slice none 0 0, .int .i64 0] 47)) H.out.2.1
              refine ⟨k + 1, next, _, _, by omega, by go_num, rfl, rfl, hle, n1, hown6, ?_, ?_⟩
              · rw [n2]
                exact ((H.out.2.2.1.under (((hb3.alloc (Nat.le_refl _) _).alloc (by simp) _).alloc (by simp; omega) _)).snoc (World.ownsRow_nil _ _ _ _)).grown own5 hg6
              · exact (below_up H.out.2.2.2.1 (((hb3.alloc (Nat.le_refl _) _).alloc (by simp) _).alloc (by simp; omega) _)).grown hg6 (by simp; omega) (fun k hk => (H.out.2.1.lt k hk).1)
            case measure => simp [intOf]; omega
        by_cases q2 : kind = 2
        · subst q2
          have hz := readText_ref s at_ ((wr.alloc (.cells #[.int .i64 2, .int .i64 num] 51)).alloc (.cells #[.int .i64 0, .string ⟨#[]⟩, .slice none 0 0, .int .i64 0] 47)) hs hat
          cases hu : Cd.readText s at_ with
          | none =>
            rw [hu] at hz
            have HU := Lib.hid hu; clear hu
            go_wp2_with fail
            refine hz.mono ?_
            rintro e' wq ⟨hq, rfl⟩
            obtain rfl := hq
            clear hz
            go_wp2_with (at_builtin; go_must (refine append4 _ 44 47 (.agg #[.int .i64 0, .string ⟨#[]⟩, .slice none 0 0, .int .i64 0]) 56 w.heap.size Try.underlying44 info_res rfl rfl _ _ rfl (.slice A1 k c1) k cs (.int .i64 0) (.string ⟨#[]⟩) (.slice none 0 0) (.int .i64 9) _ (below_owns (((hb3.alloc (Nat.le_refl _) _).alloc (by simp) _).alloc (by simp; omega) _) H.out.2.1) rfl rfl (blk3 wr _ _ _ _) (by simp [Value.oneCell']) (by omega) (by unfold maxLen; omega) (by simp; omega) ?_); intro v' w6 hown6 hg6)
            go_roundw
            case rel =>
              obtain ⟨n1, n2⟩ := read_next hlt H.out.1 H.out.2.2.2.2.1 H.out.2.2.2.2.2
              rw [show callR s at_ 0 2 num = ⟨0, [], [], at_, 9⟩ from by simp [callR, textR, HU.out]] at n1 n2
              have own5 := below_owns (((hb3.alloc (Nat.le_refl _) (.cells #[.int .i64 2, .int .i64 num] 51)).alloc (by simp) (.cells #[.int .i64 0, .string ⟨#[]⟩, .slice none 0 0, .int .i64 9] 47)).alloc (by simp; omega) (.cells #[.int .i64 0, .string ⟨#[]⟩, .slice none 0 0, .int .i64 9] 47)) H.out.2.1
              refine ⟨k + 1, at_, _, _, by omega, by go_num, rfl, rfl, hat, n1, hown6, ?_, ?_⟩
              · rw [n2]
                exact ((H.out.2.2.1.under (((hb3.alloc (Nat.le_refl _) _).alloc (by simp) _).alloc (by simp; omega) _)).snoc (World.ownsRow_nil _ _ _ _)).grown own5 hg6
              · exact (below_up H.out.2.2.2.1 (((hb3.alloc (Nat.le_refl _) _).alloc (by simp) _).alloc (by simp; omega) _)).grown hg6 (by simp; omega) (fun k hk => (H.out.2.1.lt k hk).1)
            case measure => simp [intOf]; omega
          | some q =>
            obtain ⟨n, next⟩ := q
            have hle : next ≤ s.length := by have := textR_le (s := s) (at_ := at_) (e := 0) hat; rw [show (textR s at_ 0).2.1 = next from by simp [textR, hu]] at this; exact this
            rw [hu] at hz
            have HU := Lib.hid hu; clear hu
            go_wp2_with fail
            refine hz.mono ?_
            rintro e' wq ⟨hq, rfl⟩
            obtain rfl := hq
            clear hz
            go_wp2_with (at_builtin; go_must (refine append4 _ 44 47 (.agg #[.int .i64 0, .string ⟨#[]⟩, .slice none 0 0, .int .i64 0]) 56 w.heap.size Try.underlying44 info_res rfl rfl _ _ rfl (.slice A1 k c1) k cs (.int .i64 0) (.string ⟨n.toArray⟩) (.slice none 0 0) (.int .i64 0) _ (below_owns (((hb3.alloc (Nat.le_refl _) _).alloc (by simp) _).alloc (by simp; omega) _) H.out.2.1) rfl rfl (blk3 wr _ _ _ _) (by simp [Value.oneCell']) (by omega) (by unfold maxLen; omega) (by simp; omega) ?_); intro v' w6 hown6 hg6)
            go_roundw
            case rel =>
              obtain ⟨n1, n2⟩ := read_next hlt H.out.1 H.out.2.2.2.2.1 H.out.2.2.2.2.2
              rw [show callR s at_ 0 2 num = ⟨0, n, [], next, 0⟩ from by simp [callR, textR, HU.out]] at n1 n2
              have own5 := below_owns (((hb3.alloc (Nat.le_refl _) (.cells #[.int .i64 2, .int .i64 num] 51)).alloc (by simp) (.cells #[.int .i64 0, .string ⟨n.toArray⟩, .slice none 0 0, .int .i64 0] 47)).alloc (by simp; omega) (.cells #[.int .i64 0, .string ⟨n.toArray⟩, .slice none 0 0, .int .i64 0] 47)) H.out.2.1
              refine ⟨k + 1, next, _, _, by omega, by go_num, rfl, rfl, hle, n1, hown6, ?_, ?_⟩
              · rw [n2]
                exact ((H.out.2.2.1.under (((hb3.alloc (Nat.le_refl _) _).alloc (by simp) _).alloc (by simp; omega) _)).snoc (World.ownsRow_nil _ _ _ _)).grown own5 hg6
              · exact (below_up H.out.2.2.2.1 (((hb3.alloc (Nat.le_refl _) _).alloc (by simp) _).alloc (by simp; omega) _)).grown hg6 (by simp; omega) (fun k hk => (H.out.2.1.lt k hk).1)
            case measure => simp [intOf]; omega
        by_cases q3 : kind = 3
        · subst q3
          have hz := readUint_ref s at_ ((wr.alloc (.cells #[.int .i64 3, .int .i64 num] 51)).alloc (.cells #[.int .i64 0, .string ⟨#[]⟩, .slice none 0 0, .int .i64 0] 47)) hs hat
          cases hu : Cd.readUint s at_ with
          | none =>
            have hc : Cd.readCount s at_ num = none := by unfold Cd.readCount; rw [hu]
            have HC := Lib.hid hc; clear hc
            by_cases hm : num < 0
            · skip
              rw [hu] at hz
              have HU := Lib.hid hu; clear hu
              go_wp2_with fail
              refine hz.mono ?_
              rintro e' wq ⟨hq, rfl⟩
              obtain rfl := hq
              clear hz
              go_wp2_with (at_builtin; go_must (refine append4 _ 44 47 (.agg #[.int .i64 0, .string ⟨#[]⟩, .slice none 0 0, .int .i64 0]) 56 w.heap.size Try.underlying44 info_res rfl rfl _ _ rfl (.slice A1 k c1) k cs (.int .i64 0) (.string ⟨#[]⟩) (.slice none 0 0) (.int .i64 9) _ (below_owns (((hb3.alloc (Nat.le_refl _) _).alloc (by simp) _).alloc (by simp; omega) _) H.out.2.1) rfl rfl (blk3 wr _ _ _ _) (by simp [Value.oneCell']) (by omega) (by unfold maxLen; omega) (by simp; omega) ?_); intro v' w6 hown6 hg6)
              go_roundw
              case rel =>
                obtain ⟨n1, n2⟩ := read_next hlt H.out.1 H.out.2.2.2.2.1 H.out.2.2.2.2.2
                rw [show callR s at_ 0 3 num = ⟨0, [], [], at_, 9⟩ from by simp [callR, countR, HC.out]] at n1 n2
                have own5 := below_owns (((hb3.alloc (Nat.le_refl _) (.cells #[.int .i64 3, .int .i64 num] 51)).alloc (by simp) (.cells #[.int .i64 0, .string ⟨#[]⟩, .slice none 0 0, .int .i64 9] 47)).alloc (by simp; omega) (.cells #[.int .i64 0, .string ⟨#[]⟩, .slice none 0 0, .int .i64 9] 47)) H.out.2.1
                refine ⟨k + 1, at_, _, _, by omega, by go_num, rfl, rfl, hat, n1, hown6, ?_, ?_⟩
                · rw [n2]
                  exact ((H.out.2.2.1.under (((hb3.alloc (Nat.le_refl _) _).alloc (by simp) _).alloc (by simp; omega) _)).snoc (World.ownsRow_nil _ _ _ _)).grown own5 hg6
                · exact (below_up H.out.2.2.2.1 (((hb3.alloc (Nat.le_refl _) _).alloc (by simp) _).alloc (by simp; omega) _)).grown hg6 (by simp; omega) (fun k hk => (H.out.2.1.lt k hk).1)
              case measure => simp [intOf]; omega
            · have hm2 : 0 ≤ num := by omega
              rw [hu] at hz
              have HU := Lib.hid hu; clear hu
              go_wp2_with fail
              refine hz.mono ?_
              rintro e' wq ⟨hq, rfl⟩
              obtain rfl := hq
              clear hz
              go_wp2_with (at_builtin; go_must (refine append4 _ 44 47 (.agg #[.int .i64 0, .string ⟨#[]⟩, .slice none 0 0, .int .i64 0]) 56 w.heap.size Try.underlying44 info_res rfl rfl _ _ rfl (.slice A1 k c1) k cs (.int .i64 0) (.string ⟨#[]⟩) (.slice none 0 0) (.int .i64 9) _ (below_owns (((hb3.alloc (Nat.le_refl _) _).alloc (by simp) _).alloc (by simp; omega) _) H.out.2.1) rfl rfl (blk3 wr _ _ _ _) (by simp [Value.oneCell']) (by omega) (by unfold maxLen; omega) (by simp; omega) ?_); intro v' w6 hown6 hg6)
              go_roundw
              case rel =>
                obtain ⟨n1, n2⟩ := read_next hlt H.out.1 H.out.2.2.2.2.1 H.out.2.2.2.2.2
                rw [show callR s at_ 0 3 num = ⟨0, [], [], at_, 9⟩ from by simp [callR, countR, HC.out]] at n1 n2
                have own5 := below_owns (((hb3.alloc (Nat.le_refl _) (.cells #[.int .i64 3, .int .i64 num] 51)).alloc (by simp) (.cells #[.int .i64 0, .string ⟨#[]⟩, .slice none 0 0, .int .i64 9] 47)).alloc (by simp; omega) (.cells #[.int .i64 0, .string ⟨#[]⟩, .slice none 0 0, .int .i64 9] 47)) H.out.2.1
                refine ⟨k + 1, at_, _, _, by omega, by go_num, rfl, rfl, hat, n1, hown6, ?_, ?_⟩
                · rw [n2]
                  exact ((H.out.2.2.1.under (((hb3.alloc (Nat.le_refl _) _).alloc (by simp) _).alloc (by simp; omega) _)).snoc (World.ownsRow_nil _ _ _ _)).grown own5 hg6
                · exact (below_up H.out.2.2.2.1 (((hb3.alloc (Nat.le_refl _) _).alloc (by simp) _).alloc (by simp; omega) _)).grown hg6 (by simp; omega) (fun k hk => (H.out.2.1.lt k hk).1)
              case measure => simp [intOf]; omega
          | some q =>
            obtain ⟨n, next⟩ := q
            have hle : next ≤ s.length := by have := uintR_le (s := s) (at_ := at_) (e := 0) hat; rw [show (uintR s at_ 0).2.1 = next from by simp [uintR, hu]] at this; exact this
            by_cases hm : (n : Int) ≤ num
            · have HC := Lib.hid (show Cd.readCount s at_ num = some (n, next) from by unfold Cd.readCount; rw [hu]; simp [hm])
              rw [hu] at hz
              have HU := Lib.hid hu; clear hu
              go_wp2_with fail
              refine hz.mono ?_
              rintro e' wq ⟨hq, rfl⟩
              obtain rfl := hq
              clear hz
              go_wp2_with (at_builtin; go_must (refine append4 _ 44 47 (.agg #[.int .i64 0, .string ⟨#[]⟩, .slice none 0 0, .int .i64 0]) 56 w.heap.size Try.underlying44 info_res rfl rfl _ _ rfl (.slice A1 k c1) k cs (.int .i64 (n : Nat)) (.string ⟨#[]⟩) (.slice none 0 0) (.int .i64 0) _ (below_owns (((hb3.alloc (Nat.le_refl _) _).alloc (by simp) _).alloc (by simp; omega) _) H.out.2.1) rfl rfl (blk3 wr _ _ _ _) (by simp [Value.oneCell']) (by omega) (by unfold maxLen; omega) (by simp; omega) ?_); intro v' w6 hown6 hg6)
              go_roundw
              case rel =>
                obtain ⟨n1, n2⟩ := read_next hlt H.out.1 H.out.2.2.2.2.1 H.out.2.2.2.2.2
                rw [show callR s at_ 0 3 num = ⟨(n : Nat), [], [], next, 0⟩ from by simp [callR, countR, HC.out]] at n1 n2
                have own5 := below_owns (((hb3.alloc (Nat.le_refl _) (.cells #[.int .i64 3, .int .i64 num] 51)).alloc (by simp) (.cells #[.int .i64 (n : Nat), .string ⟨#[]⟩, .slice none 0 0, .int .i64 0] 47)).alloc (by simp; omega) (.cells #[.int .i64 (n : Nat), .string ⟨#[]⟩, .slice none 0 0, .int .i64 0] 47)) H.out.2.1
                refine ⟨k + 1, next, _, _, by omega, by go_num, rfl, rfl, hle, n1, hown6, ?_, ?_⟩
                · rw [n2]
                  exact ((H.out.2.2.1.under (((hb3.alloc (Nat.le_refl _) _).alloc (by simp) _).alloc (by simp; omega) _)).snoc (World.ownsRow_nil _ _ _ _)).grown own5 hg6
                · exact (below_up H.out.2.2.2.1 (((hb3.alloc (Nat.le_refl _) _).alloc (by simp) _).alloc (by simp; omega) _)).grown hg6 (by simp; omega) (fun k hk => (H.out.2.1.lt k hk).1)
              case measure => simp [intOf]; omega
            · have HC := Lib.hid (show Cd.readCount s at_ num = none from by unfold Cd.readCount; rw [hu]; simp [hm])
              have hm2 : num < (n : Int) := by omega
              clear hm
              rw [hu] at hz
              have HU := Lib.hid hu; clear hu
              go_wp2_with fail
              refine hz.mono ?_
              rintro e' wq ⟨hq, rfl⟩
              obtain rfl := hq
              clear hz
              go_wp2_with (at_builtin; go_must (refine append4 _ 44 47 (.agg #[.int .i64 0, .string ⟨#[]⟩, .slice none 0 0, .int .i64 0]) 56 w.heap.size Try.underlying44 info_res rfl rfl _ _ rfl (.slice A1 k c1) k cs (.int .i64 0) (.string ⟨#[]⟩) (.slice none 0 0) (.int .i64 9) _ (below_owns (((hb3.alloc (Nat.le_refl _) _).alloc (by simp) _).alloc (by simp; omega) _) H.out.2.1) rfl rfl (blk3 wr _ _ _ _) (by simp [Value.oneCell']) (by omega) (by unfold maxLen; omega) (by simp; omega) ?_); intro v' w6 hown6 hg6)
              go_roundw
              case rel =>
                obtain ⟨n1, n2⟩ := read_next hlt H.out.1 H.out.2.2.2.2.1 H.out.2.2.2.2.2
                rw [show callR s at_ 0 3 num = ⟨0, [], [], at_, 9⟩ from by simp [callR, countR, HC.out]] at n1 n2
                have own5 := below_owns (((hb3.alloc (Nat.le_refl _) (.cells #[.int .i64 3, .int .i64 num] 51)).alloc (by simp) (.cells #[.int .i64 0, .string ⟨#[]⟩, .slice none 0 0, .int .i64 9] 47)).alloc (by simp; omega) (.cells #[.int .i64 0, .string ⟨#[]⟩, .slice none 0 0, .int .i64 9] 47)) H.out.2.1
                refine ⟨k + 1, at_, _, _, by omega, by go_num, rfl, rfl, hat, n1, hown6, ?_, ?_⟩
                · rw [n2]
                  exact ((H.out.2.2.1.under (((hb3.alloc (Nat.le_refl _) _).alloc (by simp) _).alloc (by simp; omega) _)).snoc (World.ownsRow_nil _ _ _ _)).grown own5 hg6
                · exact (below_up H.out.2.2.2.1 (((hb3.alloc (Nat.le_refl _) _).alloc (by simp) _).alloc (by simp; omega) _)).grown hg6 (by simp; omega) (fun k hk => (H.out.2.1.lt k hk).1)
              case measure => simp [intOf]; omega
        by_cases q4 : kind = 4
        · subst q4
          have hz := readTexts_ref s at_ ((wr.alloc (.cells #[.int .i64 4, .int .i64 num] 51)).alloc (.cells #[.int .i64 0, .string ⟨#[]⟩, .slice none 0 0, .int .i64 0] 47)) hs hat
          cases hu : Cd.readTexts s at_ with
          | none =>
            rw [hu] at hz
            have HU := Lib.hid hu; clear hu
            go_wp2_with fail
            refine hz.mono ?_
            rintro e' w4 ⟨hq, b4⟩
            obtain rfl := hq
            clear hz
            have g4 : Blk w4 (wr.heap.size + 1) 47 #[.int .i64 0, .string ⟨#[]⟩, .slice none 0 0, .int .i64 0] := (by simpa using Blk.new (wr.alloc (.cells #[.int .i64 4, .int .i64 num] 51)) 47 #[.int .i64 0, .string ⟨#[]⟩, .slice none 0 0, .int .i64 0] : Blk ((wr.alloc (.cells #[.int .i64 4, .int .i64 num] 51)).alloc (.cells #[.int .i64 0, .string ⟨#[]⟩, .slice none 0 0, .int .i64 0] 47)) (wr.heap.size + 1) 47 #[.int .i64 0, .string ⟨#[]⟩, .slice none 0 0, .int .i64 0]).below b4
            have d0 := g4.cell 0
            have d1 := g4.cell 1
            have d2 := g4.cell 2
            have d3 := g4.cell 3
            simp at d0 d1 d2 d3
            have ff := fun i => g4.frozen i
            have bw : Below wr.heap.size wr w4 := ((hb3.alloc (Nat.le_refl _) _).alloc (by simp) _).trans (b4.mono (by simp; omega))
            have s4 := b4.size
            simp at s4
            have H4 := Lib.hid (And.intro g4 (And.intro b4 bw))
            clear g4 b4 bw
            have bw5 : Below wr.heap.size wr ((w4.setCell ⟨wr.heap.size + 1, 2, none⟩ (.slice none 0 0)).setCell ⟨wr.heap.size + 1, 3, none⟩ (.int .i64 9)) := (H4.out.2.2.setCell (p := ⟨wr.heap.size + 1, 2, none⟩) (by show _ ≤ wr.heap.size + 1; omega) _).setCell (p := ⟨wr.heap.size + 1, 3, none⟩) (by show _ ≤ wr.heap.size + 1; omega) _
            have HB := Lib.hid bw5; clear bw5
            have nb : Blk (((w4.setCell ⟨wr.heap.size + 1, 2, none⟩ (.slice none 0 0)).setCell ⟨wr.heap.size + 1, 3, none⟩ (.int .i64 9)).alloc (.cells #[.int .i64 0, .string ⟨#[]⟩, .slice none 0 0, .int .i64 9] 47)) w4.heap.size 47 #[.int .i64 0, .string ⟨#[]⟩, .slice none 0 0, .int .i64 9] := by simpa using Blk.new ((w4.setCell ⟨wr.heap.size + 1, 2, none⟩ (.slice none 0 0)).setCell ⟨wr.heap.size + 1, 3, none⟩ (.int .i64 9)) 47 #[.int .i64 0, .string ⟨#[]⟩, .slice none 0 0, .int .i64 9]
            have NB := Lib.hid nb; clear nb
            have ba : Below wr.heap.size wr (((w4.setCell ⟨wr.heap.size + 1, 2, none⟩ (.slice none 0 0)).setCell ⟨wr.heap.size + 1, 3, none⟩ (.int .i64 9)).alloc (.cells #[.int .i64 0, .string ⟨#[]⟩, .slice none 0 0, .int .i64 9] 47)) := HB.out.alloc (by simp; omega) _
            have BA := Lib.hid ba; clear ba
            go_wp2_with (at_builtin; go_must (refine append4 _ 44 47 (.agg #[.int .i64 0, .string ⟨#[]⟩, .slice none 0 0, .int .i64 0]) 56 w.heap.size Try.underlying44 info_res rfl rfl _ _ rfl (.slice A1 k c1) k cs (.int .i64 0) (.string ⟨#[]⟩) (.slice none 0 0) (.int .i64 9) _ (below_owns BA.out H.out.2.1) rfl rfl NB.out (by simp [Value.oneCell']) (by omega) (by unfold maxLen; omega) (by simp; omega) ?_); intro v' w6 hown6 hg6)
            go_roundw
            case rel =>
              obtain ⟨n1, n2⟩ := read_next hlt H.out.1 H.out.2.2.2.2.1 H.out.2.2.2.2.2
              rw [show callR s at_ 0 4 num = ⟨0, [], [], at_, 9⟩ from by simp [callR, textsR, HU.out]] at n1 n2
              have own5 := below_owns BA.out H.out.2.1
              refine ⟨k + 1, at_, _, _, by omega, by go_num, rfl, rfl, hat, n1, hown6, ?_, ?_⟩
              · rw [n2]
                exact ((H.out.2.2.1.under BA.out).snoc (World.ownsRow_nil _ _ _ _)).grown own5 hg6
              · exact (below_up H.out.2.2.2.1 BA.out).grown hg6 (by simp; omega) (fun k hk => (H.out.2.1.lt k hk).1)
            case measure => simp [intOf]; omega
          | some q =>
            obtain ⟨L5, next⟩ := q
            have hle : next ≤ s.length := by have := textsR_le (s := s) (at_ := at_) (e := 0) hat; rw [show (textsR s at_ 0).2.1 = next from by simp [textsR, hu]] at this; exact this
            rw [hu] at hz
            have HU := Lib.hid hu; clear hu
            go_wp2_with fail
            refine hz.mono ?_
            rintro e' w4 ⟨⟨v5, hq, o5⟩, b4⟩
            obtain rfl := hq
            obtain ⟨A5, c5, rfl, hx5, hy5⟩ := own_form o5
            clear hz
            have g4 : Blk w4 (wr.heap.size + 1) 47 #[.int .i64 0, .string ⟨#[]⟩, .slice none 0 0, .int .i64 0] := (by simpa using Blk.new (wr.alloc (.cells #[.int .i64 4, .int .i64 num] 51)) 47 #[.int .i64 0, .string ⟨#[]⟩, .slice none 0 0, .int .i64 0] : Blk ((wr.alloc (.cells #[.int .i64 4, .int .i64 num] 51)).alloc (.cells #[.int .i64 0, .string ⟨#[]⟩, .slice none 0 0, .int .i64 0] 47)) (wr.heap.size + 1) 47 #[.int .i64 0, .string ⟨#[]⟩, .slice none 0 0, .int .i64 0]).below b4
            have d0 := g4.cell 0
            have d1 := g4.cell 1
            have d2 := g4.cell 2
            have d3 := g4.cell 3
            simp at d0 d1 d2 d3
            have ff := fun i => g4.frozen i
            have bw : Below wr.heap.size wr w4 := ((hb3.alloc (Nat.le_refl _) _).alloc (by simp) _).trans (b4.mono (by simp; omega))
            have s4 := b4.size
            simp at s4
            have H4 := Lib.hid (And.intro g4 (And.intro b4 (And.intro bw o5)))
            clear g4 b4 bw o5 hx5 hy5
            have bw5 : Below wr.heap.size wr ((w4.setCell ⟨wr.heap.size + 1, 2, none⟩ (.slice A5 L5.length c5)).setCell ⟨wr.heap.size + 1, 3, none⟩ (.int .i64 0)) := (H4.out.2.2.1.setCell (p := ⟨wr.heap.size + 1, 2, none⟩) (by show _ ≤ wr.heap.size + 1; omega) _).setCell (p := ⟨wr.heap.size + 1, 3, none⟩) (by show _ ≤ wr.heap.size + 1; omega) _
            have HB := Lib.hid bw5; clear bw5
            have nb : Blk (((w4.setCell ⟨wr.heap.size + 1, 2, none⟩ (.slice A5 L5.length c5)).setCell ⟨wr.heap.size + 1, 3, none⟩ (.int .i64 0)).alloc (.cells #[.int .i64 0, .string ⟨#[]⟩, .slice A5 L5.length c5, .int .i64 0] 47)) w4.heap.size 47 #[.int .i64 0, .string ⟨#[]⟩, .slice A5 L5.length c5, .int .i64 0] := by simpa using Blk.new ((w4.setCell ⟨wr.heap.size + 1, 2, none⟩ (.slice A5 L5.length c5)).setCell ⟨wr.heap.size + 1, 3, none⟩ (.int .i64 0)) 47 #[.int .i64 0, .string ⟨#[]⟩, .slice A5 L5.length c5, .int .i64 0]
            have NB := Lib.hid nb; clear nb
            have ba : Below wr.heap.size wr (((w4.setCell ⟨wr.heap.size + 1, 2, none⟩ (.slice A5 L5.length c5)).setCell ⟨wr.heap.size + 1, 3, none⟩ (.int .i64 0)).alloc (.cells #[.int .i64 0, .string ⟨#[]⟩, .slice A5 L5.length c5, .int .i64 0] 47)) := HB.out.alloc (by simp; omega) _
            have BA := Lib.hid ba; clear ba
            have o6 : (((w4.setCell ⟨wr.heap.size + 1, 2, none⟩ (.slice A5 L5.length c5)).setCell ⟨wr.heap.size + 1, 3, none⟩ (.int .i64 0)).alloc (.cells #[.int .i64 0, .string ⟨#[]⟩, .slice A5 L5.length c5, .int .i64 0] 47)).ownsRow w.heap.size 9 1 (.slice A5 L5.length c5) L5.length (strs L5) := by
              refine ((((Mod.refl (fun k => k = wr.heap.size + 1) w4).setCell (p := ⟨wr.heap.size + 1, 2, none⟩) (fun _ => rfl) _).setCell (p := ⟨wr.heap.size + 1, 3, none⟩) (fun _ => rfl) _).alloc _).owns (owns_base H4.out.2.2.2 (fun k hk => ?_)) (fun k hk => ?_)
              · have := (H4.out.2.2.2.lt k hk).1; simp at this; omega
              · have := (H4.out.2.2.2.lt k hk).1; simp at this; omega
            have O5 := Lib.hid o6; clear o6
            go_wp2_with (at_builtin; go_must (refine append4 _ 44 47 (.agg #[.int .i64 0, .string ⟨#[]⟩, .slice none 0 0, .int .i64 0]) 56 w.heap.size Try.underlying44 info_res rfl rfl _ _ rfl (.slice A1 k c1) k cs (.int .i64 0) (.string ⟨#[]⟩) (.slice A5 L5.length c5) (.int .i64 0) _ (below_owns BA.out H.out.2.1) rfl rfl NB.out (by simp [Value.oneCell']) (by omega) (by unfold maxLen; omega) (by simp; omega) ?_); intro v' w6 hown6 hg6)
            go_roundw
            case rel =>
              obtain ⟨n1, n2⟩ := read_next hlt H.out.1 H.out.2.2.2.2.1 H.out.2.2.2.2.2
              rw [show callR s at_ 0 4 num = ⟨0, [], L5, next, 0⟩ from by simp [callR, textsR, HU.out]] at n1 n2
              have own5 := below_owns BA.out H.out.2.1
              refine ⟨k + 1, next, _, _, by omega, by go_num, rfl, rfl, hle, n1, hown6, ?_, ?_⟩
              · rw [n2]
                exact ((H.out.2.2.1.under BA.out).snoc O5.out).grown own5 hg6
              · exact (below_up H.out.2.2.2.1 BA.out).grown hg6 (by simp; omega) (fun k hk => (H.out.2.1.lt k hk).1)
            case measure => simp [intOf]; omega
        have z0 : (kind == 0) = false := by rw [beq_eq_false_iff_ne]; exact q0
        have z1 : (kind == 1) = false := by rw [beq_eq_false_iff_ne]; exact q1
        have z2 : (kind == 2) = false := by rw [beq_eq_false_iff_ne]; exact q2
        have z3 : (kind == 3) = false := by rw [beq_eq_false_iff_ne]; exact q3
        have z4 : (kind == 4) = false := by rw [beq_eq_false_iff_ne]; exact q4
        have z5 : (kind == 5) = false := by rw [beq_eq_false_iff_ne]; exact q5
        have z6 : (kind == 6) = false := by rw [beq_eq_false_iff_ne]; exact q6
        have HQ := Lib.hid (And.intro q0 (And.intro q1 (And.intro q2 (And.intro q3 (And.intro q4 (And.intro q5 q6))))))
        clear q0 q1 q2 q3 q4 q5 q6
        go_wp2_with (at_builtin; go_must (refine append4 _ 44 47 (.agg #[.int .i64 0, .string ⟨#[]⟩, .slice none 0 0, .int .i64 0]) 56 w.heap.size Try.underlying44 info_res rfl rfl _ _ rfl (.slice A1 k c1) k cs (.int .i64 0) (.string ⟨#[]⟩) (.slice none 0 0) (.int .i64 0) _ (below_owns (((hb3.alloc (Nat.le_refl _) _).alloc (by simp) _).alloc (by simp; omega) _) H.out.2.1) rfl rfl (blk3 wr _ _ _ _) (by simp [Value.oneCell']) (by omega) (by unfold maxLen; omega) (by simp; omega) ?_); intro v' w6 hown6 hg6)
        go_roundw
        case rel =>
          obtain ⟨n1, n2⟩ := read_next hlt H.out.1 H.out.2.2.2.2.1 H.out.2.2.2.2.2
          rw [show callR s at_ 0 kind num = ⟨0, [], [], at_, 0⟩ from by obtain ⟨y0, y1, y2, y3, y4, y5, y6⟩ := HQ.out; simp [callR, y0, y1, y2, y3, y4, y5, y6]] at n1 n2
          have own5 := below_owns (((hb3.alloc (Nat.le_refl _) (.cells #[.int .i64 kind, .int .i64 num] 51)).alloc (by simp) (.cells #[.int .i64 0, .string ⟨#[]⟩, .slice none 0 0, .int .i64 0] 47)).alloc (by simp; omega) (.cells #[.int .i64 0, .string ⟨#[]⟩, .slice none 0 0, .int .i64 0] 47)) H.out.2.1
          refine ⟨k + 1, at_, _, _, by omega, by go_num, rfl, rfl, hat, n1, hown6, ?_, ?_⟩
          · rw [n2]
            exact ((H.out.2.2.1.under (((hb3.alloc (Nat.le_refl _) _).alloc (by simp) _).alloc (by simp; omega) _)).snoc (World.ownsRow_nil _ _ _ _)).grown own5 hg6
          · exact (below_up H.out.2.2.2.1 (((hb3.alloc (Nat.le_refl _) _).alloc (by simp) _).alloc (by simp; omega) _)).grown hg6 (by simp; omega) (fun k hk => (H.out.2.1.lt k hk).1)
        case measure => simp [intOf]; omega
      · have e0 : (er == 0) = false := by rw [beq_eq_false_iff_ne]; exact he
        have HE := Lib.hid he; clear he
        by_cases q5 : kind = 5
        · subst q5
          go_wp2_with (at_builtin; go_must (refine append4 _ 44 47 (.agg #[.int .i64 0, .string ⟨#[]⟩, .slice none 0 0, .int .i64 0]) 56 w.heap.size Try.underlying44 info_res rfl rfl _ _ rfl (.slice A1 k c1) k cs (.int .i64 0) (.string ⟨#[]⟩) (.slice none 0 0) (.int .i64 er) _ (below_owns (((hb3.alloc (Nat.le_refl _) _).alloc (by simp) _).alloc (by simp; omega) _) H.out.2.1) rfl rfl (blk3 wr _ _ _ _) (by simp [Value.oneCell']) (by omega) (by unfold maxLen; omega) (by simp; omega) ?_); intro v' w6 hown6 hg6)
          go_roundw
          case rel =>
            obtain ⟨n1, n2⟩ := read_next hlt H.out.1 H.out.2.2.2.2.1 H.out.2.2.2.2.2
            rw [show callR s at_ er 5 num = ⟨0, [], [], at_, er⟩ from by rw [callR_fail HE.out]; simp] at n1 n2
            have own5 := below_owns (((hb3.alloc (Nat.le_refl _) (.cells #[.int .i64 5, .int .i64 num] 51)).alloc (by simp) (.cells #[.int .i64 0, .string ⟨#[]⟩, .slice none 0 0, .int .i64 er] 47)).alloc (by simp; omega) (.cells #[.int .i64 0, .string ⟨#[]⟩, .slice none 0 0, .int .i64 er] 47)) H.out.2.1
            refine ⟨k + 1, at_, _, _, by omega, by go_num, rfl, rfl, hat, n1, hown6, ?_, ?_⟩
            · rw [n2]
              exact ((H.out.2.2.1.under (((hb3.alloc (Nat.le_refl _) _).alloc (by simp) _).alloc (by simp; omega) _)).snoc (World.ownsRow_nil _ _ _ _)).grown own5 hg6
            · exact (below_up H.out.2.2.2.1 (((hb3.alloc (Nat.le_refl _) _).alloc (by simp) _).alloc (by simp; omega) _)).grown hg6 (by simp; omega) (fun k hk => (H.out.2.1.lt k hk).1)
          case measure => simp [intOf]; omega
        by_cases q6 : kind = 6
        · subst q6
          go_wp2_with (at_builtin; go_must (refine append4 _ 44 47 (.agg #[.int .i64 0, .string ⟨#[]⟩, .slice none 0 0, .int .i64 0]) 56 w.heap.size Try.underlying44 info_res rfl rfl _ _ rfl (.slice A1 k c1) k cs (.int .i64 er) (.string ⟨#[]⟩) (.slice none 0 0) (.int .i64 er) _ (below_owns (((hb3.alloc (Nat.le_refl _) _).alloc (by simp) _).alloc (by simp; omega) _) H.out.2.1) rfl rfl (blk3 wr _ _ _ _) (by simp [Value.oneCell']) (by omega) (by unfold maxLen; omega) (by simp; omega) ?_); intro v' w6 hown6 hg6)
          go_roundw
          case rel =>
            obtain ⟨n1, n2⟩ := read_next hlt H.out.1 H.out.2.2.2.2.1 H.out.2.2.2.2.2
            rw [show callR s at_ er 6 num = ⟨er, [], [], at_, er⟩ from by rw [callR_fail HE.out]; simp] at n1 n2
            have own5 := below_owns (((hb3.alloc (Nat.le_refl _) (.cells #[.int .i64 6, .int .i64 num] 51)).alloc (by simp) (.cells #[.int .i64 er, .string ⟨#[]⟩, .slice none 0 0, .int .i64 er] 47)).alloc (by simp; omega) (.cells #[.int .i64 er, .string ⟨#[]⟩, .slice none 0 0, .int .i64 er] 47)) H.out.2.1
            refine ⟨k + 1, at_, _, _, by omega, by go_num, rfl, rfl, hat, n1, hown6, ?_, ?_⟩
            · rw [n2]
              exact ((H.out.2.2.1.under (((hb3.alloc (Nat.le_refl _) _).alloc (by simp) _).alloc (by simp; omega) _)).snoc (World.ownsRow_nil _ _ _ _)).grown own5 hg6
            · exact (below_up H.out.2.2.2.1 (((hb3.alloc (Nat.le_refl _) _).alloc (by simp) _).alloc (by simp; omega) _)).grown hg6 (by simp; omega) (fun k hk => (H.out.2.1.lt k hk).1)
          case measure => simp [intOf]; omega
        have z5 : (kind == 5) = false := by rw [beq_eq_false_iff_ne]; exact q5
        have z6 : (kind == 6) = false := by rw [beq_eq_false_iff_ne]; exact q6
        have HQ := Lib.hid q6; clear q5 q6
        go_wp2_with (at_builtin; go_must (refine append4 _ 44 47 (.agg #[.int .i64 0, .string ⟨#[]⟩, .slice none 0 0, .int .i64 0]) 56 w.heap.size Try.underlying44 info_res rfl rfl _ _ rfl (.slice A1 k c1) k cs (.int .i64 0) (.string ⟨#[]⟩) (.slice none 0 0) (.int .i64 er) _ (below_owns (((hb3.alloc (Nat.le_refl _) _).alloc (by simp) _).alloc (by simp; omega) _) H.out.2.1) rfl rfl (blk3 wr _ _ _ _) (by simp [Value.oneCell']) (by omega) (by unfold maxLen; omega) (by simp; omega) ?_); intro v' w6 hown6 hg6)
        go_roundw
        case rel =>
          obtain ⟨n1, n2⟩ := read_next hlt H.out.1 H.out.2.2.2.2.1 H.out.2.2.2.2.2
          rw [show callR s at_ er kind num = ⟨0, [], [], at_, er⟩ from by rw [callR_fail HE.out, if_neg HQ.out]] at n1 n2
          have own5 := below_owns (((hb3.alloc (Nat.le_refl _) (.cells #[.int .i64 kind, .int .i64 num] 51)).alloc (by simp) (.cells #[.int .i64 0, .string ⟨#[]⟩, .slice none 0 0, .int .i64 er] 47)).alloc (by simp; omega) (.cells #[.int .i64 0, .string ⟨#[]⟩, .slice none 0 0, .int .i64 er] 47)) H.out.2.1
          refine ⟨k + 1, at_, _, _, by omega, by go_num, rfl, rfl, hat, n1, hown6, ?_, ?_⟩
          · rw [n2]
            exact ((H.out.2.2.1.under (((hb3.alloc (Nat.le_refl _) _).alloc (by simp) _).alloc (by simp; omega) _)).snoc (World.ownsRow_nil _ _ _ _)).grown own5 hg6
          · exact (below_up H.out.2.2.2.1 (((hb3.alloc (Nat.le_refl _) _).alloc (by simp) _).alloc (by simp; omega) _)).grown hg6 (by simp; omega) (fun k hk => (H.out.2.1.lt k hk).1)
        case measure => simp [intOf]; omega
    · obtain rfl : k = L.length := by omega
      rw [List.take_length] at hst hres
      obtain ⟨A1, c1, rfl, hc1, hc2⟩ := own_form hown
      go_wp2
      go_ret
      exact ⟨_, cs, rfl, hown, hres, bel⟩
end Go.Proofs.Ytalailodnmfmlaa
