/-
  The digits of a message, in the program. Conditions: at most 2^30 bytes.
-/
import Derived.Test.YtnlpakalcckaiaaSgA
import Derived.Test.YtnlpakalcckaiaaShaB
import Derived.Test.YtnlpakalcckaiaaLayR
import Derived.Lib.OthersKept
namespace Go.Proofs.Ytnlpakalcckaiaa
set_option linter.unusedVariables false
open Go.RowKit Go.Shelf

/-- the iterator over the string s in block k, at pos -/
def iterR (k : Nat) (s : ByteArray) (pos : Nat) : Res where
  P w F := w.heap[k]? = some (.stringIter s pos) ∧ F = (fun i => i = k)
  lt h i hi := by obtain ⟨hb, rfl⟩ := h; subst hi; exact (Array.getElem?_eq_some_iff.1 hb).1
  mod h hm hG := by obtain ⟨hb, rfl⟩ := h; exact ⟨(hm.block k (Array.getElem?_eq_some_iff.1 hb).1 (hG _ rfl)).trans hb, rfl⟩
theorem St.iter {lo : Nat} {w0 w : World} {Rs : List Res} (h : St lo w0 w Rs) (s : ByteArray) : St lo w0 (w.iter s 0) (iterR w.heap.size s 0 :: Rs) :=
  h.new ((Below.refl _ w).alloc (Nat.le_refl _) _) ⟨World.iter_heap w s 0, rfl⟩ (fun k hk => by subst hk; exact Nat.le_refl _)
theorem St.at_iter {lo : Nat} {w0 w : World} {Rs : List Res} {k pos : Nat} {s : ByteArray} (h : St lo w0 w (iterR k s pos :: Rs)) : w.heap[k]? = some (.stringIter s pos) := by
  obtain ⟨_, _, F, V, h1, _⟩ := h
  exact h1.1
theorem St.step_iter {lo : Nat} {w0 w : World} {Rs : List Res} {k pos : Nat} {s : ByteArray} (h : St lo w0 w (iterR k s pos :: Rs)) (pos' : Nat) : St lo w0 (w.iterAt k s pos') (iterR k s pos' :: Rs) := by
  obtain ⟨F, h1, h2, h3⟩ := h.open
  obtain ⟨hb, rfl⟩ := h1
  exact h3 (F' := fun i => i = k) _ ⟨rfl, rfl, rfl, by rw [Lib.iterAt_size]; exact Nat.le_refl _, fun i hi hn => Lib.iterAt_other w k i s pos' hn⟩ ⟨Lib.iterAt_heap w k s pos pos' hb, rfl⟩ (fun i hi => .inl hi)
theorem info_int : (Try.prog.info? 3).map (fun i => (i.zero, i.size, i.bytes)) = some (some (.int .i64 0), 1, 8) := by kernel_rfl
theorem idx_f : Try.laysIndexRune_ren.f 152 = 41 := by kernel_rfl
theorem idx_hex (n : Nat) (h : n < 16) : Lib.indexByte [48, 49, 50, 51, 52, 53, 54, 55, 56, 57, 97, 98, 99, 100, 101, 102] (((Sh.hexD n).toNat : Int).toNat.toUInt8) = (n : Int) ∧ (Sh.hexD n).toNat < 128 := by
  have : ∀ m : Fin 16, Lib.indexByte [48, 49, 50, 51, 52, 53, 54, 55, 56, 57, 97, 98, 99, 100, 101, 102] (((Sh.hexD m.val).toNat : Int).toNat.toUInt8) = (m.val : Int) ∧ (Sh.hexD m.val).toNat < 128 := by decide +kernel
  exact this ⟨n, h⟩
theorem index_spec (n : Nat) (h : n < 16) (W : World) : Calls Try.prog 41 #[.string ⟨#[48, 49, 50, 51, 52, 53, 54, 55, 56, 57, 97, 98, 99, 100, 101, 102]⟩, .int .i32 ((Sh.hexD n).toNat : Int)] W fun e w' => e = .returned (.int .i64 (n : Int)) ∧ w' = W := by
  obtain ⟨h1, h2⟩ := idx_hex n h
  have k := Any.strings_IndexRune_ascii Try.laysIndexRune ⟨#[48, 49, 50, 51, 52, 53, 54, 55, 56, 57, 97, 98, 99, 100, 101, 102]⟩ ((Sh.hexD n).toNat : Int) W (by omega) (by omega)
  rw [idx_f] at k
  refine k.mono fun e w' ⟨he, hw⟩ => ⟨?_, hw⟩
  rw [he]
  exact congrArg (fun v => Ending.returned (Value.int .i64 v)) h1
theorem shr8 (n : Nat) (h : n ≤ 100000) : bits .and .i64 (n : Int) 15 = ((n % 16 : Nat) : Int) := by
  have h127 : (BitVec.ofInt 64 15).toNat = 2 ^ 4 - 1 := by decide
  have key : (BitVec.ofInt 64 (n : Int) &&& BitVec.ofInt 64 15).toNat = ((n : Int) % ((2 ^ 64 : Nat) : Int)).toNat % 2 ^ 4 := by
    rw [BitVec.toNat_and, BitVec.toNat_ofInt, h127, Nat.and_two_pow_sub_one_eq_mod]
  show IntKind.i64.wrap ((BitVec.ofInt 64 (n : Int) &&& BitVec.ofInt 64 15).toNat : Nat) = _
  rw [key, IntKind.wrap_i64]
  omega
set_option maxRecDepth 20000 in
set_option maxHeartbeats 4000000 in
theorem digits_spec (msg : Sg.Str) (w : World) (hm : msg.length ≤ 1073741824) :
    Calls Try.prog 15 #[.string ⟨msg.toArray⟩] w fun e w' => ∃ A c, e = .returned (.slice A 67 c) ∧ 67 ≤ c ∧ c ≤ maxLen ∧ St w.heap.size w w' [ownR 3 1 (.slice A 67 c) 67 (nints (Sg.dgs msg))] := by
  obtain ⟨i1, hi1, hy0, hy1, hy2⟩ := info_parts info_int
  obtain ⟨W, hr, ho, hg⟩ := run_make_own (P := Try.prog) w w.heap.size 46 3 i1 (.int .i64 0) 1 Try.underlying46 hi1 hy0 hy1 .i64 .i64 67 (by rw [hy2]; omega) (by unfold maxLen; omega) (Nat.le_refl _)
  have h1 : St w.heap.size w W [ownR 3 1 (.slice (some ⟨w.heap.size, 0, none⟩) 0 67) 0 (nints [])] := (St.nil w).new_own ⟨hg.os, hg.tape, hg.output, hg.size, fun k hk => hg.block k hk (by simp)⟩ ho
  have ksum := fun W' => sum_below msg (by omega) W'
  have hdg : Sg.dgs msg = Sg.dl (Sh.sha msg) ++ Sg.tail3 (Sg.lack (Sg.dl (Sh.sha msg))) := rfl
  have hsl : (Sh.sha msg).length = 32 := Sh.sha_length _
  have khex := fun W' => hex_spec (Sh.sha msg) (by omega) W'
  have hdl := Sg.dl_sha msg
  have hle := Sg.dl_le (Sh.sha msg)
  have hhx := Sg.dl_hex (Sh.sha msg)
  rw [hdg]
  generalize Sg.dl (Sh.sha msg) = D at hdl hle hhx ⊢
  generalize Sh.sha msg = H at ksum khex hhx
  generalize hHX : Sh.hex H = X at khex hhx
  have hXl : X.length = 64 := by rw [hhx, List.length_map, hdl]
  have HHX := Lib.hid hhx
  clear hi1 hy0 hy1 hy2 ho hg hdg hsl hHX hhx
  rw [show (((67 : Nat)) : Int) = 67 from rfl] at hr
  go_enter Try.func15, Try.ntmps15
  go_wp2_with fail
  refine (ksum _).mono ?_
  rintro e w1 ⟨rfl, b1⟩
  go_wp2_with fail
  refine (khex _).mono ?_
  rintro e w2 ⟨rfl, b2⟩
  have h2 := ((h1.under b1).under b2).iter ⟨X.toArray⟩
  clear hr ksum khex h1
  go_wp2_with fail
  go_loopg [3, 4] 64 (fun gf s3 s4 wx => ∃ (k : Nat) (v' : Value), k ≤ 64 ∧ 64 ≤ k + gf ∧ v' = s3 ∧ s4 = .int .i64 ((Sg.lack (D.take k) : Nat) : Int) ∧ St w.heap.size w wx [iterR w2.heap.size ⟨X.toArray⟩ k, ownR 3 1 v' k (nints (D.take k))])
  case atStart => exact ⟨0, _, by omega, by omega, rfl, rfl, h2⟩
  case round =>
    clear h2
    obtain ⟨k, v, hk, hgk, rfl, rfl, h⟩ := hrel
    by_cases hlt : k < 64
    · obtain ⟨g', rfl⟩ : ∃ g', gk = g' + 1 := ⟨gk - 1, by omega⟩
      have hDk : k < D.length := by omega
      have hn15 := hle _ (List.getElem_mem hDk)
      have hz : X[k]'(by omega) = Sh.hexD D[k] := by
        have h0 := HHX.out
        subst h0
        rw [List.getElem_map]
      have hlk := Sg.lack_take D k hDk
      have hll := Sg.lack_le (D.take k)
      rw [List.length_take] at hll
      have htk : nints (D.take (k + 1)) = nints (D.take k) ++ [.int .i64 (D[k] : Int)] := by
        rw [List.take_succ_eq_append_getElem hDk]
        unfold nints
        rw [List.map_append]
        rfl
      generalize D[k] = n at hn15 hz hlk htk
      have ki := fun W => index_spec n (by omega) W
      have hasc := (idx_hex n (by omega)).2
      have hnx : ∀ ty, (Instr.next (.pointer (some ⟨w2.heap.size, 0, none⟩)) true ty).run Try.prog wr = .ok (.tuple #[.bool true, .int .i64 (k : Int), .int .i32 (((Sh.hexD n).toNat : Nat) : Int)]) (wr.iterAt w2.heap.size ⟨X.toArray⟩ (k + 1)) := fun ty => by
        have := Lib.run_next_ascii_at (P := Try.prog) wr w2.heap.size ⟨X.toArray⟩ k ty h.at_iter (by rw [bytes_size]; omega) (by
          rw [at_byte X k (by omega), hz]; exact hasc)
        rw [at_byte X k (by omega), hz] at this
        exact this
      have h3 := (h.step_iter (k + 1)).swap
      generalize wr.iterAt w2.heap.size ⟨X.toArray⟩ (k + 1) = W3 at hnx h3
      generalize Sh.hexD n = z at ki hnx
      generalize Sg.lack (D.take k) = l at hlk hll ⊢
      generalize nints (D.take k) = xs at htk h3
      have b1 : (k + 1) * 8 ≤ 140737488355328 := by omega
      have b2 : k + 1 ≤ maxLen := by unfold maxLen; omega
      have g1 : decide ((n : Int) < 0) = false := by simp
      have e15 : (15 : Int) - (n : Int) = ((15 - n : Nat) : Int) := by omega
      have H3 := Lib.hid (And.intro h3 (And.intro hlk htk))
      clear h hz hasc hlk htk hle hXl hdl h3
      go_wp2_with fail
      refine (ki _).mono ?_
      rintro e w' ⟨rfl, rfl⟩
      go_wp2_with (at_builtin; go_must (refine appendO 46 (te := 3) (u := .int .i64 (n : Int)) H3.out.1 Try.underlying46 info_int rfl rfl _ _ rfl rfl rfl rfl b2 b1 ?_); intro v8 w8 h8)
      have H8 := Lib.hid h8
      clear h8
      go_roundg g'
      case measure => omega
      case rel => exact ⟨k + 1, _, by omega, by omega, rfl, by rw [H3.out.2.1]; go_num, by rw [H3.out.2.2]; exact H8.out.swap⟩
    · obtain rfl : k = 64 := by omega
      have htk : D.take 64 = D := List.take_of_length_le (by omega)
      rw [htk] at h ⊢
      have hll := Sg.lack_le D
      rw [hdl] at hll
      have hnx : ∀ ty, (Instr.next (.pointer (some ⟨w2.heap.size, 0, none⟩)) true ty).run Try.prog wr = .ok (.tuple #[.bool false]) wr := fun ty => Lib.run_next_end_at (P := Try.prog) wr w2.heap.size ⟨X.toArray⟩ 64 ty h.at_iter (by rw [bytes_size]; omega)
      have h3 := h.swap.tail
      have h4 := h.swap
      have HT := Lib.hid (show nints (D ++ Sg.tail3 (Sg.lack D)) = nints D ++ [.int .i64 ((Sg.lack D / 256 : Nat) : Int), .int .i64 ((Sg.lack D / 16 % 16 : Nat) : Int), .int .i64 ((Sg.lack D % 16 : Nat) : Int)] by unfold nints; rw [List.map_append]; rfl)
      obtain ⟨l, hlD⟩ : ∃ l, Sg.lack D = l := ⟨_, rfl⟩
      rw [hlD] at hll HT ⊢
      have HLD := Lib.hid hlD
      clear hlD
      have s1 := shr8 (l / 16) (by omega)
      have s2 := shr8 l (by omega)
      have e16 : ((l / 16 : Nat) : Int) = (l : Int) / 16 := by omega
      rw [e16] at s1
      have b1 : (64 + 3) * 8 ≤ 140737488355328 := by omega
      have b2 : 64 + 3 ≤ maxLen := by unfold maxLen; omega
      have H4 := Lib.hid h4
      clear h h3 h4 htk hle hXl hdl
      have HT2 := Lib.hid (And.intro e16 (And.intro s1 s2))
      clear e16 s1 s2
      go_wp2_with (at_builtin; go_must (refine appendM 46 (H4.out.alloc0 (.cells #[.int .i64 ((l : Int) / 256), .int .i64 (bits .and .i64 ((l : Int) / 16) 15), .int .i64 (bits .and .i64 (l : Int) 15)] 3)) Try.underlying46 info_int rfl (by decide) rfl _ _ rfl rfl ⟨wr.heap.size, 0, none⟩ 3 3 [.int .i64 ((l : Int) / 256), .int .i64 (bits .and .i64 ((l : Int) / 16) 15), .int .i64 (bits .and .i64 (l : Int) 15)] rfl rfl (new_row wr #[.int .i64 ((l : Int) / 256), .int .i64 (bits .and .i64 ((l : Int) / 16) 15), .int .i64 (bits .and .i64 (l : Int) 15)] 3) (by intro u hu; simp at hu; rcases hu with rfl | rfl | rfl <;> rfl) b2 b1 ?_); intro v8 w8 h8)
      obtain ⟨A1, c1, rfl, hc1, hm1⟩ := own_form h8.own
      have H8 := Lib.hid h8
      clear h8
      go_ret
      refine ⟨A1, c1, rfl, hc1, hm1, ?_⟩
      have h9 := H8.out.swap.tail
      rw [HT2.out.2.1, HT2.out.2.2] at h9
      rw [HLD.out, HT.out]
      exact h9
end Go.Proofs.Ytnlpakalcckaiaa
