/-
  The leaves of a key tree, in the program; valid key trees; the next key trees. Conditions: seeds of at most 2^30 bytes, numbers below 2^62.
-/
import Derived.Test.YtnlpakalcckaiaaSgA
namespace Go.Proofs.Ytnlpakalcckaiaa
set_option linter.unusedVariables false
open Go.RowKit

set_option maxRecDepth 20000 in
set_option maxHeartbeats 2000000 in
theorem otleaf_spec (seed : Sg.Str) (i : Nat) (w : World) (hs : seed.length ≤ 1073741824) (hi : i < 9223372036854775808) :
    Calls Try.prog 49 #[.string ⟨seed.toArray⟩, .int .i64 i] w fun e w' => e = .returned (.string ⟨(Sg.otl seed i).toArray⟩) ∧ Below w.heap.size w w' := by
  have htl := Sg.tops_len seed i
  have hm : Sg.otl seed i = Mk.leaf (Sg.tops seed i 67) := rfl
  rw [hm]
  have kl := fun W => leaf_spec (Sg.tops seed i 67) (by rw [htl]; decide) W
  have hm67 : Sg.tops seed i 67 = Sg.tops seed i 67 := rfl
  have b0 : Below w.heap.size w (w.alloc (.cells #[.pointer none, .slice none 0 0] 71)) := (Below.refl _ w).alloc (Nat.le_refl _) _
  have u0 : Bu w.heap.size w.heap.size (Sg.tops seed i 0) (w.alloc (.cells #[.pointer none, .slice none 0 0] 71)) := Bu.new w
  clear hm hm67
  go_enter Try.func49, Try.ntmps49
  go_wp2
  go_loopw [7] (fun j wr => ∃ k : Nat, k ≤ 67 ∧ j = .int .i64 k ∧ Bu w.heap.size w.heap.size (Sg.tops seed i k) wr ∧ Below w.heap.size w wr) (fun j _ => 67 - (intOf j).toNat)
  case atStart => exact ⟨0, by decide, rfl, u0, b0⟩
  case round =>
    clear u0 b0
    obtain ⟨k, hk, rfl, hu, hbe⟩ := hrel
    by_cases hlt : k < 67
    · have ks := fun W => secret_spec seed i k W hs hi (by omega)
      have hsl := Sg.sec_len seed i k
      have kw : ∀ W, Calls Try.prog 24 #[.string ⟨(Sg.sec seed i k).toArray⟩, .int .i64 i, .int .i64 k, .int .i64 0, .int .i64 15] W fun e w' => e = .returned (.string ⟨(Sg.wlk i k 0 15 (Sg.sec seed i k)).toArray⟩) ∧ Below W.heap.size W w' := fun W => walk_spec (Sg.sec seed i k) i k 0 15 W (by omega) hi (by omega) (by decide)
      have hts := Sg.tops_succ seed i k
      have hl := htl k
      have hwl := Sg.wlk_len i k 0 15 _ hsl
      generalize Sg.wlk i k 0 15 (Sg.sec seed i k) = y at kw hts hwl
      generalize Sg.sec seed i k = x at ks kw
      generalize Sg.tops seed i k = T at hts hl hu
      have HT := Lib.hid (And.intro hts hu)
      clear hts hu hsl kl htl
      have hd : decide ((k : Int) < 67) = true := by simp; omega
      go_wp2_with fail
      refine (ks _).mono ?_
      rintro e w1 ⟨rfl, b1⟩
      go_wp2_with fail
      refine (kw _).mono ?_
      rintro e w2 ⟨rfl, b2⟩
      have b12 := b1.trans (b2.mono b1.size)
      have u2 := HT.out.2.below b12
      have be2 := hbe.trans (b12.mono hbe.size)
      have kb := bu_write _ _ T y w2 u2 (by omega) be2.size
      clear u2
      go_wp2_with fail
      refine kb.mono ?_
      rintro e w3 ⟨rfl, u3, b3⟩
      have U3 := Lib.hid u3
      clear u3 kb
      go_wp2
      go_roundw
      case rel => exact ⟨k + 1, by omega, by go_num, by rw [HT.out.1]; exact U3.out, be2.trans b3⟩
      case measure => simp [intOf]; omega
    · obtain rfl : k = 67 := by omega
      have kb := bu_string _ _ _ wr hu hbe.size
      clear hu htl
      go_wp2_with fail
      refine kb.mono ?_
      rintro e w1 ⟨rfl, u1, b1⟩
      clear u1 kb
      go_wp2_with fail
      refine (kl _).mono ?_
      rintro e w2 ⟨rfl, b2⟩
      go_wp2
      go_ret
      have b01 := hbe.trans b1
      exact ⟨rfl, b01.trans (b2.mono b01.size)⟩
/-- a key tree by value -/
def keyV (seed : Sg.Str) (h n : Int) : Value := .agg #[.string ⟨seed.toArray⟩, .int .i64 h, .int .i64 n]
set_option maxRecDepth 20000 in
set_option maxHeartbeats 2000000 in
theorem kleaves_spec (seed : Sg.Str) (h : Nat) (n : Int) (w : World) (hs : seed.length ≤ 1073741824) (hh : h ≤ 6) :
    Calls Try.prog 21 #[.agg #[.string ⟨seed.toArray⟩, .int .i64 (h : Int), .int .i64 n]] w (SlR (Sg.lvs seed (2 ^ h)) w) := by
  have hP : 2 ^ h ≤ 2 ^ 6 := Nat.pow_le_pow_right (by decide) hh
  have h4 : ((2 : Int) ^ h) = ((2 ^ h : Nat) : Int) := by simp
  have hll := Sg.lvs_len seed (2 ^ h)
  unfold SlR
  rw [hll]
  obtain ⟨P, hPe⟩ : ∃ P, 2 ^ h = P := ⟨_, rfl⟩
  rw [hPe] at h4 hP ⊢
  have h5 : wrap64 ((2 : Int) ^ h) = (P : Int) := by rw [h4, IntWalk.wrap64_in _ (by omega)]
  have s1 := (St.nil w).alloc 25 #[.string ⟨seed.toArray⟩, .int .i64 (h : Int), .int .i64 n]
  have c0 := s1.blk.cell 0
  have c1 := s1.blk.cell 1
  have z0 : St w.heap.size w (w.alloc (.cells #[.string ⟨seed.toArray⟩, .int .i64 (h : Int), .int .i64 n] 25)) [ownR 9 1 (.slice none 0 0) 0 (strs (Sg.lvs seed 0)), cellsR w.heap.size 25 #[.string ⟨seed.toArray⟩, .int .i64 (h : Int), .int .i64 n]] := s1.new_own (Below.refl _ _) (World.ownsRow_nil _ _ _ _)
  clear s1 hll hPe h4
  go_enter Try.func21, Try.ntmps21
  go_wp2
  rw [h5]
  clear h5
  go_loopw [3, 8] (fun v j wr => ∃ (k : Nat) (v' : Value), k ≤ P ∧ j = .int .i64 k ∧ v' = v ∧ St w.heap.size w wr [ownR 9 1 v' k (strs (Sg.lvs seed k)), cellsR w.heap.size 25 #[.string ⟨seed.toArray⟩, .int .i64 (h : Int), .int .i64 n]]) (fun _ j _ => P - (intOf j).toNat)
  case atStart => exact ⟨0, _, Nat.zero_le _, rfl, rfl, z0⟩
  case round =>
    clear z0 c0 c1
    obtain ⟨k, v', hk, rfl, rfl, hst⟩ := hrel
    have c0 := hst.swap.blk.cell 0
    by_cases hlt : k < P
    · have kl := fun W => otleaf_spec seed k W hs (by omega)
      have hls := Sg.lvs_succ seed k
      generalize Sg.otl seed k = y at kl hls
      generalize Sg.lvs seed k = L at hls hst
      have b1 : (k + 1) * 16 ≤ 140737488355328 := by omega
      have b2 : k + 1 ≤ maxLen := by unfold maxLen; omega
      have HL := Lib.hid (And.intro hls hst)
      clear hls hst
      go_wp2_with fail
      refine (kl _).mono ?_
      rintro e w5 ⟨rfl, b5⟩
      have h5 := HL.out.2.under b5
      go_wp2_with (at_builtin; go_must (refine appendO 31 (te := 9) (u := .string ⟨y.toArray⟩) h5 Try.underlying31 info_str rfl rfl _ _ rfl rfl rfl rfl b2 b1 ?_); intro v8 w8 h8)
      have H8 := Lib.hid h8
      clear h5 h8
      go_roundw
      case rel =>
        exact ⟨k + 1, _, by omega, by go_num, rfl, by rw [HL.out.1, strs_append]; exact H8.out⟩
      case measure => simp [intOf]; omega
    · obtain rfl : k = P := by omega
      obtain ⟨A1, c1, rfl, hc1, hm1⟩ := own_form hst.own
      have HS := Lib.hid hst
      clear hst
      go_wp2
      go_ret
      exact ⟨A1, c1, rfl, hc1, hm1, ((HS.out.swap).tail)⟩
end Go.Proofs.Ytnlpakalcckaiaa
