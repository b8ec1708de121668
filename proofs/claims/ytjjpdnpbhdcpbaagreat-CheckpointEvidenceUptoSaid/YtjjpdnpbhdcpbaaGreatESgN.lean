/-
  The reference's digits. Conditions: messages of at most 2^30 bytes.
-/
import Derived.Test.YtjjpdnpbhdcpbaaGreatQPc
import Derived.Test.YtjjpdnpbhdcpbaaGreatQSgL
import Derived.Test.YtjjpdnpbhdcpbaaGreatQPb
import Derived.Test.YtjjpdnpbhdcpbaaGreatQSgJ
import Derived.Test.YtjjpdnpbhdcpbaaGreatQSgI
import Derived.Test.YtjjpdnpbhdcpbaaGreatQSgH
import Derived.Test.YtjjpdnpbhdcpbaaGreatQSgG
import Derived.Test.YtjjpdnpbhdcpbaaGreatQSgF
import Derived.Test.YtjjpdnpbhdcpbaaGreatQPa
import Derived.Test.YtjjpdnpbhdcpbaaGreatEPa
import Derived.Test.YtjjpdnpbhdcpbaaGreatQCdA
import Derived.Test.YtjjpdnpbhdcpbaaGreatEMkB
import Derived.Test.YtjjpdnpbhdcpbaaGreatQMkB
import Derived.Test.YtjjpdnpbhdcpbaaGreatQShaB
import Derived.Test.YtjjpdnpbhdcpbaaGreatQShaA
import Derived.Test.YtjjpdnpbhdcpbaaGreatQBase
import Derived.Test.YtjjpdnpbhdcpbaaGreatProg
import Derived.Laws.BitsAllLaws
import Derived.BigQuiet
import Derived.BigRegion
import Derived.Deep.RegionHeld3
import Derived.Test.YtjjpdnpbhdcpbaaGreatLayC
import Derived.Test.YtjjpdnpbhdcpbaaGreatLay
import Derived.Laws.CopyRow
import Derived.Laws.IdiomStrings
import Derived.Lib.Bytealg
import Derived.Laws.MakeOwn
import Derived.Test.YtjjpdnpbhdcpbaaGreatLayR
import Derived.Lib.OthersKept
import Derived.Test.YtjjpdnpbhdcpbaaGreatQSgD
import Derived.RangeFuncNested
import Derived.RangeFuncBound
import Derived.RangeFuncCalls
import Derived.RangeFuncLeaves
import Derived.Shelf.Abstract
import Derived.Shelf.RegionOpen
import Derived.OwnWalkIn
import Derived.TacticsInMore
import Derived.LoopNIn
import Derived.LoopIn
import Derived.Lib.FrozenHead2
import Derived.OrdersIn
import Derived.RangeFuncFrom
import Derived.Laws.ResultCell
import Derived.Test.YtjjpdnpbhdcpbaaGreatQCdB
import Derived.Laws.DeepNot64
import Derived.Test.YtjjpdnpbhdcpbaaGreatQMkA
namespace Go.Proofs.YtjjpdnpbhdcpbaaGreat
set_option linter.unusedVariables false
open Go.RowKit Go.Shelf
attribute [local go_sem] Oper.semAt_some
theorem dl_take (s : Sg.Str) (k : Nat) (h : k < s.length) : Sg.dl (s.take (k + 1)) = Sg.dl (s.take k) ++ [s[k].toNat / 16, s[k].toNat % 16] := by
 unfold Sg.dl
 rw [List.take_succ_eq_append_getElem h, List.flatMap_append]
 simp
set_option maxRecDepth 20000 in
set_option maxHeartbeats 4000000 in
theorem rdigits_spec (msg : Sg.Str) (w : World) (hm : msg.length ≤ 1073741824) :
 Calls Tryz.prog 102 #[.string ⟨msg.toArray⟩] w fun e w' => ∃ A c, e = .returned (.slice A 67 c) ∧ 67 ≤ c ∧ c ≤ maxLen ∧ St w.heap.size w w' [ownR 3 1 (.slice A 67 c) 67 (nints (Sg.dgs msg))] := by
 have ksum := fun W' => rsum_spec msg (by omega) W'
 have hdg : Sg.dgs msg = Sg.dl (Sh.sha msg) ++ Sg.tail3 (Sg.lack (Sg.dl (Sh.sha msg))) := rfl
 have hsl : (Sh.sha msg).length = 32 := Sh.sha_length _
 have hll : ∀ k, k ≤ 32 → Sg.lack (Sg.dl ((Sh.sha msg).take k)) ≤ 1000 := fun k hk => by
  have h1 := Sg.lack_le (Sg.dl ((Sh.sha msg).take k))
  rw [Sg.dl_len, List.length_take] at h1
  omega
 have hpl := bytes_size (Sh.sha msg)
 rw [hdg]
 generalize Sh.sha msg = H at *
 rw [hsl] at hpl
 clear hdg
 go_enter Tryz.func102, Tryz.ntmps102
 go_wp2_with fail
 refine (ksum _).mono ?_
 rintro e w1 ⟨rfl, b1⟩
 have h1 : St w.heap.size w (w1.alloc (.cells #[] 3)) [ownR 3 1 (.slice (some ⟨w1.heap.size, 0, none⟩) 0 0) 0 (nints (Sg.dl (H.take 0)))] := ((St.nil w).under b1).new_own ((Below.refl _ w1).alloc (Nat.le_refl _) _) (World.ownsRow_lit w1 #[] 0 (Nat.le_refl _) (by decide) rfl)
 go_wp2_with fail
 go_loopw [4, 5, 6] (fun s4 s5 s6 wr => ∃ (k : Nat) (v' : Value), k ≤ 32 ∧ v' = s4 ∧ s5 = .int .i64 ((Sg.lack (Sg.dl (H.take k)) : Nat) : Int) ∧ s6 = .int .i64 (k : Int) ∧ St w.heap.size w wr [ownR 3 1 v' (2 * k) (nints (Sg.dl (H.take k)))]) (fun _ _ j _ => 32 - (intOf j).toNat)
 case atStart => exact ⟨0, _, by omega, rfl, rfl, rfl, h1⟩
 case round =>
  clear h1 ksum
  obtain ⟨k, v, hk, rfl, rfl, rfl, h⟩ := hrel
  by_cases hlt : k < 32
  ·have hkl : k < H.length := by omega
   have hx : ∀ hh, (⟨H.toArray⟩ : ByteArray)[k]'hh = H[k] := fun hh => at_byte H k hkl hh
   have hdt := dl_take H k hkl
   have hlk : Sg.lack (Sg.dl (H.take (k + 1))) = Sg.lack (Sg.dl (H.take k)) + (15 - H[k].toNat / 16) + (15 - H[k].toNat % 16) := by
    rw [hdt, Sg.lack_append]
    simp [Sg.lack]
    omega
   have hl0 := hll k hk
   have hxl := H[k].toNat_lt
   obtain ⟨n, hn⟩ : ∃ n, H[k].toNat = n := ⟨_, rfl⟩
   have hxn : ∀ hh, ((⟨H.toArray⟩ : ByteArray)[k]'hh).toNat = n := fun hh => by rw [hx hh]; exact hn
   rw [hn] at hdt hlk hxl
   have q1 : IntKind.i64.wrap (n : Int) = (n : Int) := by rw [IntKind.wrap_i64]; omega
   clear hx
   generalize Sg.lack (Sg.dl (H.take k)) = l at hlk hl0 ⊢
   obtain ⟨a, ha⟩ : ∃ a, n / 16 = a := ⟨_, rfl⟩
   obtain ⟨b, hb⟩ : ∃ b, n % 16 = b := ⟨_, rfl⟩
   have e3 : (n : Int).tdiv 16 = (a : Int) := by rw [Int.tdiv_eq_ediv_of_nonneg (by omega)]; omega
   have e5 : (n : Int).tmod 16 = (b : Int) := by rw [Int.tmod_eq_emod_of_nonneg (by omega)]; omega
   have q3 : IntKind.i64.wrap (a : Int) = (a : Int) := by rw [IntKind.wrap_i64]; omega
   have ha15 : a ≤ 15 := by omega
   have hb15 : b ≤ 15 := by omega
   rw [ha, hb] at hdt hlk
   have htk : nints (Sg.dl (H.take (k + 1))) = nints (Sg.dl (H.take k)) ++ [.int .i64 (a : Int), .int .i64 (b : Int)] := by
    rw [hdt]
    unfold nints
    rw [List.map_append]
    rfl
   have HK := Lib.hid (And.intro hlk htk)
   have g1 : decide ((k : Int) < 32) = true := by simp; omega
   have g2 : (k : Int) < 32 := by omega
   have b1 : (2 * k + 2) * 8 ≤ 140737488355328 := by omega
   have b2 : 2 * k + 2 ≤ maxLen := by unfold maxLen; omega
   have b3 : 32 ≤ maxLen := by decide
   have y0 := h.drew
   clear hlk htk hdt ha hb hll hn
   have hT : True := trivial
   have hone : ∀ u ∈ (#[Value.int .i64 (a : Int), Value.int .i64 (b : Int)]).toList, u.oneCell' = true := fun u hu => by
    simp only [List.mem_cons, List.not_mem_nil, or_false] at hu
    rcases hu with rfl | rfl <;> rfl
   go_wp2_with fail
   refine wp_region_noPanic ?_
   refine wp_region_held_drew (S := (fun w' => True)) (by kernel_rfl) ?_ (fun hH0 => ?_)
   ·exact hT
   refine tk 0 16 hH0 ?_
   refine tk 1 17 hH0 ?_
   refine tk 2 18 hH0 ?_
   refine tk 3 19 hH0 ?_
   refine tk 4 20 hH0 ?_
   refine tk 5 21 hH0 ?_
   refine tk 6 22 hH0 ?_
   refine tk 7 23 hH0 ?_
   refine tk 8 24 hH0 ?_
   refine tk 9 25 hH0 ?_
   refine tk 10 26 hH0 ?_
   refine rdy [11] ?_
   refine an 27 fun K hK => ?_
   go_simp
   refine hK.out _ _ ?_ (fun hH1 => ?_)
   ·exact hT
   clear hK K hH0
   try simp only [pu]
   refine rdy [12] ?_
   refine an 28 fun K hK => ?_
   (
    refine stepN 125 #[.int .i64 (a : Int), .int .i64 (b : Int)] h Tryz.underlying125 info_int rfl _ _ (by rfl) (by rfl) (by rfl) (by rfl) rfl (Nat.succ_pos 1) hone b2 b1 ?_
    intro gg cap w5 h8 _)
   refine hK.out _ _ ?_ (fun hH2 => ?_)
   ·exact hT
   clear hK K hH1
   try simp only [pu]
   refine tk 13 4 hH2 ?_
   refine dn ?_ _
   all_goals (refine NoPanic.normal ?_)
   have H8 := Lib.hid h8
   have q4 : IntKind.i64.wrap ((l : Int) + 30) = (l : Int) + 30 := by rw [IntKind.wrap_i64]; omega
   have q5 : IntKind.i64.wrap ((l : Int) + 30 - (a : Int)) = (l : Int) + 30 - (a : Int) := by rw [IntKind.wrap_i64]; omega
   have q6 : IntKind.i64.wrap ((l : Int) + 30 - (a : Int) - (b : Int)) = (l : Int) + 30 - (a : Int) - (b : Int) := by rw [IntKind.wrap_i64]; omega
   clear h h8 y0 hone
   go_wp2
   go_quiet (fail)
   go_wp2
   go_roundw
   case rel => exact ⟨k + 1, _, by omega, rfl, by rw [HK.out.1]; go_num, by go_num, by rw [HK.out.2, show 2 * (k + 1) = 2 * k + 2 from by omega]; exact H8.out.drewN _⟩
   case measure => simp [intOf]; omega
  ·obtain rfl : k = 32 := by omega
   have htk : H.take 32 = H := List.take_of_length_le (by omega)
   have hl0 := hll 32 (Nat.le_refl _)
   rw [htk] at h hl0 ⊢
   have HT := Lib.hid (show nints (Sg.dl H ++ Sg.tail3 (Sg.lack (Sg.dl H))) = nints (Sg.dl H) ++ [.int .i64 ((Sg.lack (Sg.dl H) / 256 : Nat) : Int), .int .i64 ((Sg.lack (Sg.dl H) / 16 % 16 : Nat) : Int), .int .i64 ((Sg.lack (Sg.dl H) % 16 : Nat) : Int)] by unfold nints; rw [List.map_append]; rfl)
   obtain ⟨l, hlD⟩ : ∃ l, Sg.lack (Sg.dl H) = l := ⟨_, rfl⟩
   rw [hlD] at hl0 HT ⊢
   have HLD := Lib.hid hlD
   have b1 : (64 + 3) * 8 ≤ 140737488355328 := by omega
   have b2 : 64 + 3 ≤ maxLen := by unfold maxLen; omega
   have e1 : (l : Int).tdiv 256 = ((l / 256 : Nat) : Int) := by rw [Int.tdiv_eq_ediv_of_nonneg (by omega)]; omega
   have e2 : (l : Int).tdiv 16 = ((l / 16 : Nat) : Int) := by rw [Int.tdiv_eq_ediv_of_nonneg (by omega)]; omega
   have e3 : ((l / 16 : Nat) : Int).tmod 16 = ((l / 16 % 16 : Nat) : Int) := by rw [Int.tmod_eq_emod_of_nonneg (by omega)]; omega
   have e4 : (l : Int).tmod 16 = ((l % 16 : Nat) : Int) := by rw [Int.tmod_eq_emod_of_nonneg (by omega)]; omega
   obtain ⟨a, ha⟩ : ∃ a, l / 256 = a := ⟨_, rfl⟩
   obtain ⟨b, hb⟩ : ∃ b, l / 16 % 16 = b := ⟨_, rfl⟩
   obtain ⟨c, hc⟩ : ∃ c, l % 16 = c := ⟨_, rfl⟩
   obtain ⟨d, hd⟩ : ∃ d, l / 16 = d := ⟨_, rfl⟩
   rw [hd] at e2 e3 hb
   rw [hb] at e3
   rw [ha] at e1
   rw [hc] at e4
   have q1 : IntKind.i64.wrap (a : Int) = (a : Int) := by rw [IntKind.wrap_i64]; omega
   have q2 : IntKind.i64.wrap (d : Int) = (d : Int) := by rw [IntKind.wrap_i64]; omega
   have H4 := Lib.hid h
   have HA := Lib.hid (And.intro ha (And.intro hb (And.intro hc hd)))
   have b3 : 64 + 3 ≤ maxLen := b2
   clear h hll hlD ha hb hc hd htk
   go_wp2_with (at_builtin; go_must (refine appendM 125 (H4.out.alloc0 (.cells #[.int .i64 (a : Int), .int .i64 (b : Int), .int .i64 (c : Int)] 3)) Tryz.underlying125 info_int rfl (by decide) rfl _ _ rfl rfl ⟨wr.heap.size, 0, none⟩ 3 3 [.int .i64 (a : Int), .int .i64 (b : Int), .int .i64 (c : Int)] rfl rfl (new_row wr #[.int .i64 (a : Int), .int .i64 (b : Int), .int .i64 (c : Int)] 3) (by intro u hu; simp at hu; rcases hu with rfl | rfl | rfl <;> rfl) b2 b1 ?_); intro v8 w8 h8)
   obtain ⟨A1, c1, rfl, hc1, hm1⟩ := own_form h8.own
   have H8 := Lib.hid h8
   clear h8
   go_ret
   refine ⟨A1, c1, rfl, hc1, hm1, ?_⟩
   rw [HLD.out, HT.out, HA.out.1, HA.out.2.2.2, HA.out.2.1, HA.out.2.2.1]
   exact H8.out
end Go.Proofs.YtjjpdnpbhdcpbaaGreat
