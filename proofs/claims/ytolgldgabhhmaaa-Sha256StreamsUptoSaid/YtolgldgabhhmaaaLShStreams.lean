/-
  Sha256Streams: the walk. Conditions: the arguments are small.
-/
import Derived.Test.YtolgldgabhhmaaaLShTags
import Derived.Test.YtolgldgabhhmaaaJoin
import Derived.Test.YtolgldgabhhmaaaOpenG
namespace Go.Proofs.Ytolgldgabhhmaaa
set_option linter.unusedVariables false
open Go.RowKit

theorem flat_take (L : List Sh.Str) (k : Nat) (h : k < L.length) : (L.take (k + 1)).flatten = (L.take k).flatten ++ L[k] := by
  rw [List.take_succ_eq_append_getElem h, List.flatten_append]
  simp only [List.flatten_cons, List.flatten_nil, List.append_nil]
theorem flat_take_len (L : List Sh.Str) (k : Nat) : (L.take k).flatten.length ≤ weight L := by
  rw [List.length_flatten]
  have := weight_take_le L k
  unfold weight
  omega
set_option maxRecDepth 20000 in
set_option maxHeartbeats 2000000 in
theorem shaStreams_walk (A : Option Addr) (L : List Sh.Str) (c : Nat) (B : Option Addr) (bs : List Bool) (cb : Nat) (w : World) (hR : Rd w A (strs L)) (hc : L.length ≤ c) (hp : weight L ≤ 1048576) (hRb : Rd w B (bools bs)) (hbl : bs.length ≤ 9223372036854775807) :
    Calls Try.prog 9 #[.slice A L.length c, .slice B bs.length cb] w fun e w' => e = .returned (.bool true) ∧ Below w.heap.size w w' := by
  have hLl : L.length ≤ 1048576 := by unfold weight at hp; omega
  have HI := Lib.hid (And.intro hR hRb)
  clear hR hRb
  go_enter Try.func9, Try.ntmps9
  go_wp2_with fail
  refine (awake_sha _).mono ?_
  rintro e w1 ⟨rfl, b1⟩
  have kFew := few_spec A L c 2000 w1 (HI.out.1.below b1) (by omega)
  by_cases hf : (weight L : Int) ≤ 2000
  · rw [decide_eq_true hf] at kFew
    go_wp2_with fail
    refine kFew.mono ?_
    clear kFew
    rintro e w' ⟨rfl, rfl⟩
    have h1 := (St.nil w).under b1
    clear b1
    go_wp2_with fail
    refine (new_msg h1).mono ?_
    rintro e w2 ⟨g, rfl, h2⟩
    clear h1
    go_wp2
    go_loopw [6, 19] (fun v i wr => ∃ k : Nat, k ≤ L.length ∧ i = .int .i64 k ∧ v = .string ⟨(L.take k).flatten.toArray⟩ ∧ St w.heap.size w wr (msgR g (L.take k).flatten :: [])) (fun _ i _ => L.length - (intOf i).toNat)
    case atStart => exact ⟨0, Nat.zero_le _, rfl, rfl, h2⟩
    case round =>
      obtain ⟨k, hk, rfl, rfl, h⟩ := hrel
      clear h2
      by_cases hlt : k < L.length
      · obtain ⟨b, off, hA, hcc⟩ := (HI.out.1.below h.below).str hlt
        subst hA
        have hst := flat_take L k hlt
        have hl1 := flat_take_len L (k + 1)
        have hl0 := flat_take_len L k
        rw [hst] at hl1
        obtain ⟨p, hpk⟩ : ∃ p, L[k] = p := ⟨_, rfl⟩
        rw [hpk] at hcc hst hl1
        obtain ⟨M, hM⟩ : ∃ M, (L.take k).flatten = M := ⟨_, rfl⟩
        rw [hM] at h hst hl0 hl1 ⊢
        have hba := bytes_append M p
        have hl2 : M.length + p.length ≤ 2000 := by rw [List.length_append] at hl1; omega
        have HS := Lib.hid hst
        clear hst hpk hM
        have f1 : ¬ (IntKind.i64.max < (M.length : Int) + (p.length : Int)) := by show ¬ ((9223372036854775807 : Int) < _); omega
        have f2 : ¬ (9223372036854775807 < M.length + p.length) := by omega
        have hk1 : (k : Int) < (L.length : Int) := by omega
        have hk0 : (0 : Int) ≤ (k : Int) := by omega
        go_wp2_with fail
        refine (hwrite_spec M p h (by rw [List.length_append]; omega)).mono ?_
        rintro e w3 ⟨rfl, h3⟩
        clear h hcc
        have HL := Lib.hid hl1
        have ks := fun W => sum_below (M ++ p) (by rw [List.length_append]; omega) W
        have kh := fun (W : World) (h : St w.heap.size w W [msgR g (M ++ p)]) => hsum_spec (M ++ p) h (by rw [List.length_append]; omega)
        obtain ⟨N, hN⟩ : ∃ N, M ++ p = N := ⟨_, rfl⟩
        rw [hN] at h3 hba ks kh
        have HN := Lib.hid (HS.out.trans hN)
        clear hl1 hl2 hl0 hN
        by_cases hb : k < bs.length
        · have hb1 : (k : Int) < (bs.length : Int) := by omega
          have hcb : ∃ b off, B = some ⟨b, off, none⟩ ∧ w3.cell? ⟨b, off + k, none⟩ = some (.bool bs[k]) := by
            rcases HI.out.2.below h3.below with h0 | ⟨b, off, hA, hc⟩
            · have h9 : bs.length = 0 := by rw [← bools_length bs, h0]; rfl
              omega
            · refine ⟨b, off, hA, ?_⟩
              have := hc k (by rw [bools_length]; exact hb)
              simpa [bools] using this
          obtain ⟨b', off', hB, hcb⟩ := hcb
          subst hB
          obtain ⟨q, hq⟩ : ∃ q, bs[k] = q := ⟨_, rfl⟩
          rw [hq] at hcb
          clear hq
          cases q
          · go_wp2
            go_roundw
            case rel => exact ⟨k + 1, by omega, by go_num, by rw [HN.out], by rw [HN.out]; exact h3⟩
            case measure => simp [intOf]; omega
          · go_wp2_with fail
            refine (kh _ h3).mono ?_
            rintro e w4 ⟨rfl, h4⟩
            go_wp2_with fail
            refine (ks w4).mono ?_
            rintro e w5 ⟨rfl, b5⟩
            go_wp2
            go_roundw
            case rel => exact ⟨k + 1, by omega, by go_num, by rw [HN.out], by rw [HN.out]; exact h4.under b5⟩
            case measure => simp [intOf]; omega
        · have hb1 : decide ((k : Int) < (bs.length : Int)) = false := by simp; omega
          go_wp2
          go_roundw
          case rel => exact ⟨k + 1, by omega, by go_num, by rw [HN.out], by rw [HN.out]; exact h3⟩
          case measure => simp [intOf]; omega
      · obtain rfl : k = L.length := by omega
        have hl0 := flat_take_len L L.length
        rw [List.take_length] at h hl0 ⊢
        have kj := fun (W : World) (hb : Below w.heap.size w W) => join_spec A L c W (HI.out.1.below hb) hc (by omega)
        obtain ⟨M, hM⟩ : ∃ M, L.flatten = M := ⟨_, rfl⟩
        rw [hM] at h hl0 kj ⊢
        clear hM
        have ks := fun W => sum_below M (by omega) W
        have kh := fun (W : World) (h : St w.heap.size w W [msgR g M]) => hsum_spec M h (by omega)
        go_wp2_with fail
        refine (kh _ h).mono ?_
        rintro e w4 ⟨rfl, h4⟩
        clear h
        go_wp2_with fail
        refine (ks w4).mono ?_
        rintro e w5 ⟨rfl, b5⟩
        have h5 := h4.under b5
        clear h4 b5
        go_wp2_with fail
        refine (kh _ h5).mono ?_
        rintro e w6 ⟨rfl, h6⟩
        clear h5
        go_wp2_with fail
        refine (kj _ h6.below).mono ?_
        rintro e w7 ⟨rfl, b7⟩
        have h7 := h6.under b7
        clear h6 b7
        go_wp2_with fail
        refine (ks w7).mono ?_
        rintro e w8 ⟨rfl, b8⟩
        go_wp2
        go_ret
        exact ⟨rfl, (h7.under b8).below⟩
  · rw [decide_eq_false hf] at kFew
    go_wp2_with fail
    refine kFew.mono ?_
    clear kFew
    rintro e w' ⟨rfl, rfl⟩
    go_wp2
    go_ret
    exact ⟨rfl, b1⟩
end Go.Proofs.Ytolgldgabhhmaaa
