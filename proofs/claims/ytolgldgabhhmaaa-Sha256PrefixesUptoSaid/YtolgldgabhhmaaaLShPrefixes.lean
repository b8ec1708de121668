/-
  Sha256Prefixes: the walk. Conditions: the arguments are small.
-/
import Derived.Test.YtolgldgabhhmaaaLShTags
import Derived.Test.YtolgldgabhhmaaaBuS
namespace Go.Proofs.Ytolgldgabhhmaaa
set_option linter.unusedVariables false
open Go.RowKit

theorem pre_take (L : List Sh.Str) (k : Nat) (hk : k < L.length) : (L.take (k + 1)).flatMap (fun p => Sh.be8 p.length ++ p) = (L.take k).flatMap (fun p => Sh.be8 p.length ++ p) ++ Sh.be8 L[k].length ++ L[k] := tag_take L k hk
theorem pre_len (L : List Sh.Str) (k : Nat) : ((L.take k).flatMap (fun p => Sh.be8 p.length ++ p)).length ≤ 8 * weight L := by
  rw [tag_len]
  have h1 := weight_take_le L k
  have h2 : (L.take k).length ≤ L.length := by rw [List.length_take]; omega
  unfold weight
  omega
set_option maxRecDepth 20000 in
set_option maxHeartbeats 4000000 in
theorem shaPrefixes_walk (tag : Sh.Str) (A : Option Addr) (parts : List Sh.Str) (c : Nat) (w : World) (hR : Rd w A (strs parts)) (hnil : A = none → parts.length = 0 ∧ c = 0) (ht : tag.length ≤ 1048576) (hp : weight parts ≤ 1048576) :
    Calls Try.prog 8 #[.string ⟨tag.toArray⟩, .slice A parts.length c] w fun e w' => e = .returned (.bool true) ∧ Below w.heap.size w w' := by
  have hpl : parts.length ≤ 1048576 := by unfold weight at hp; omega
  have HI := Lib.hid hR
  go_enter Try.func8, Try.ntmps8
  go_wp2_with fail
  refine (awake_sha _).mono ?_
  rintro e w1 ⟨rfl, b1⟩
  have s1 := b1.size
  have rd1 := hR.below b1
  clear hR
  go_wp2_with (at_builtin; go_must (refine appendN _ 25 9 (.string ⟨#[]⟩) 16 w.heap.size Try.underlying25 info_str rfl rfl _ _ rfl _ 1 [.string ⟨tag.toArray⟩] A parts.length c (strs parts) (World.ownsRow_lit w1 #[.string ⟨tag.toArray⟩] 1 s1 (by decide) rfl) rfl rfl hnil (rd1.alloc _) (strs_length parts) (strs_one parts) (by omega) (by unfold maxLen; omega) (by simp; omega) ?_))
  intro v2 w2 o2 g2
  obtain ⟨A2, c2, rfl, hc1, hc2⟩ := own_form o2
  have b2 : Below w.heap.size w w2 := (b1.alloc s1 _).grown g2 (by simp; omega) (fun k hk => by cases hk; exact s1)
  have rd2 : Rd w2 A2 (strs (tag :: parts)) := Rd.of_own o2
  clear o2 g2 hc1 hc2 rd1
  have hw : weight (tag :: parts) = weight parts + tag.length + 1 := weight_cons _ _
  have kFew := few_spec A2 (tag :: parts) c2 2000 w2 rd2 (by omega)
  rw [show (tag :: parts).length = 1 + parts.length from by simp; omega] at kFew
  clear rd2
  by_cases hf : (weight (tag :: parts) : Int) ≤ 2000
  · rw [decide_eq_true hf] at kFew
    go_wp2_with fail
    refine kFew.mono ?_
    clear kFew
    rintro e w' ⟨rfl, rfl⟩
    have h2 := ((St.nil w).under b2).new_bu
    clear b2 b1
    have rd3 := HI.out.below h2.below
    have hB : w.heap.size ≤ (w2.alloc (.cells #[.pointer none, .slice none 0 0] 43)).heap.size := h2.below.size
    have o1 := World.ownsRow_lit (e := 9) (size := 1) (base := (w2.alloc (.cells #[.pointer none, .slice none 0 0] 43)).heap.size) (w2.alloc (.cells #[.pointer none, .slice none 0 0] 43)) #[.string ⟨tag.toArray⟩] 1 (Nat.le_refl _) (by decide) rfl
    have hbig : (w2.alloc (.cells #[.pointer none, .slice none 0 0] 43)).heap.size = w2.heap.size + 1 := World.size_alloc _ _
    rw [hbig] at o1
    go_wp2_with (at_builtin; go_must (refine appendN _ 25 9 (.string ⟨#[]⟩) 16 (w2.heap.size + 1) Try.underlying25 info_str rfl rfl _ _ rfl _ 1 [.string ⟨tag.toArray⟩] A parts.length c (strs parts) o1 rfl rfl hnil (rd3.alloc _) (strs_length parts) (strs_one parts) (by omega) (by unfold maxLen; omega) (by simp) ?_))
    intro v3 w3 o3 g3
    have h3 := h2.new_own ((((Below.refl _ (w2.alloc (.cells #[.pointer none, .slice none 0 0] 43))).alloc (Nat.le_refl _) _).grown g3 (by simp) (fun k hk => by cases hk; simp))) (by rw [hbig]; exact o3)
    obtain ⟨A3, c3, rfl, _, _⟩ := own_form o3
    clear h2 rd3 hB o3 g3 o1 hbig
    generalize w2.heap.size = b at h3 ⊢
    have h4 := h3.swap
    clear h3
    have hIl : (tag :: parts).length = 1 + parts.length := by simp; omega
    have hIw : weight (tag :: parts) ≤ 2000 := by omega
    have htw : tag.length ≤ 2000 ∧ weight parts ≤ 2000 := by omega
    have HTW := Lib.hid htw
    clear htw
    have hmsg : tagMsg tag parts = (tag :: parts).flatMap (fun p => Sh.be8 p.length ++ p) := rfl
    have h4 : St w.heap.size w w3 (buR b [] :: ownR 9 1 (.slice A3 (1 + parts.length) c3) (1 + parts.length) (strs (tag :: parts)) :: []) := h4
    generalize tag :: parts = IT at h4 hIl hIw hmsg
    obtain ⟨N, hN⟩ : ∃ N, 1 + parts.length = N := ⟨_, rfl⟩
    have hN1 : 1 + (parts.length : Int) = (N : Int) := by omega
    have hNb : N ≤ 1048577 := by omega
    rw [hN] at h4 hIl ⊢
    have HM := Lib.hid (And.intro hmsg (And.intro hIl hIw))
    clear hmsg hIl hIw hN hf hw
    go_wp2
    clear hN1
    go_loopw [22] (fun i wr => ∃ k : Nat, k ≤ N ∧ i = .int .i64 k ∧ St w.heap.size w wr (buR b ((IT.take k).flatMap (fun p => Sh.be8 p.length ++ p)) :: ownR 9 1 (.slice A3 N c3) N (strs IT) :: [])) (fun i _ => N - (intOf i).toNat)
    case atStart => exact ⟨0, Nat.zero_le _, rfl, h4⟩
    case round =>
      obtain ⟨k, hk, rfl, h⟩ := hrel
      clear h4
      by_cases hlt : k < N
      · have hkI : k < IT.length := by rw [HM.out.2.1]; exact hlt
        obtain ⟨b', off, hA, hcc⟩ := (Rd.of_own ((h.front 1 (by simp)).own)).str hkI
        subst hA
        have hst := pre_take IT k hkI
        have hl1 := pre_len IT (k + 1)
        rw [hst] at hl1
        obtain ⟨p, hpk⟩ : ∃ p, IT[k] = p := ⟨_, rfl⟩
        rw [hpk] at hcc hst hl1
        obtain ⟨M, hM⟩ : ∃ M, (IT.take k).flatMap (fun p => Sh.be8 p.length ++ p) = M := ⟨_, rfl⟩
        rw [hM] at h hst hl1
        have hbl : (Sh.be8 p.length).length = 8 := rfl
        have hl2 : M.length + 8 + p.length ≤ 16000 := by have := HM.out.2.2; simp only [List.length_append, hbl] at hl1; omega
        have HS := Lib.hid (And.intro hst hbl)
        clear hst hpk hM hkI hbl hl1
        have hk1 : (k : Int) < (N : Int) := by omega
        have hk0 : (0 : Int) ≤ (k : Int) := by omega
        go_wp2
        clear hcc
        go_loopw [8] (fun i wr => ∃ j : Nat, j ≤ 8 ∧ i = .int .i64 (7 - (j : Int)) ∧ St w.heap.size w wr (buR b (M ++ (Sh.be8 p.length).take j) :: ownR 9 1 (.slice (some ⟨b', off, none⟩) N c3) N (strs IT) :: [])) (fun i _ => (intOf i + 1).toNat)
        case atStart => exact ⟨0, by omega, by simp, by simpa using h⟩
        case round =>
          obtain ⟨j, hj, rfl, hj4⟩ := hrel
          clear h
          by_cases hlj : j < 8
          · have hge : decide ((7 : Int) - (j : Int) ≥ 0) = true := by simp; omega
            have hj0 : (0 : Int) ≤ 7 - (j : Int) := by omega
            obtain ⟨m, hm⟩ : ∃ m, 8 * (7 - j) = m := ⟨_, rfl⟩
            have hm8 : 8 * (7 - (j : Int)) = (m : Int) := by omega
            have hm56 : m ≤ 56 := by omega
            have hnx := be8_next p.length j hlj
            rw [hm] at hnx
            have hy : (p.length : Int) / 2 ^ m % 256 = ((UInt8.ofNat (p.length / 2 ^ m)).toNat : Int) := by rw [UInt8.toNat_ofNat']; simp
            generalize UInt8.ofNat (p.length / 2 ^ m) = y at hnx hy
            have HN := Lib.hid hnx
            clear hnx hm
            have hlen : (M ++ (Sh.be8 p.length).take j).length + 1 ≤ 140737488355328 := by rw [List.length_append, List.length_take]; omega
            go_wp2_with fail
            refine (s_byte hj4 y hlen).mono ?_
            rintro e w5 ⟨rfl, h5⟩
            go_wp2
            go_roundw
            case rel =>
              refine ⟨j + 1, by omega, by congr 1 <;> omega, ?_⟩
              rw [HN.out, ← List.append_assoc]
              exact h5
            case measure => simp [intOf]; omega
          · obtain rfl : j = 8 := by omega
            have hge : decide ((7 : Int) - ((8 : Nat) : Int) ≥ 0) = false := rfl
            have hful : (Sh.be8 p.length).take 8 = Sh.be8 p.length := rfl
            rw [hful] at hj4
            have hlen : (M ++ Sh.be8 p.length).length + p.length ≤ 140737488355328 := by rw [List.length_append, HS.out.2]; omega
            clear hful
            go_wp2_with fail
            refine (s_write hj4 p hlen).mono ?_
            rintro e w5 ⟨rfl, h5⟩
            go_wp2
            go_roundw
            case rel =>
              refine ⟨k + 1, by omega, by go_num, ?_⟩
              rw [HS.out.1]
              exact h5
            case measure => simp [intOf]; omega
      · obtain rfl : k = N := by omega
        have hfull : IT.take k = IT := List.take_of_length_le (by rw [HM.out.2.1]; exact Nat.le_refl _)
        rw [hfull] at h
        have hl1 := pre_len IT k
        rw [hfull] at hl1
        have hl2 := HM.out.2.2
        clear hfull
        obtain ⟨M, hM⟩ : ∃ M, IT.flatMap (fun p => Sh.be8 p.length ++ p) = M := ⟨_, rfl⟩
        rw [hM] at h hl1
        have kt := fun (W : World) (hb : Below w.heap.size w W) => tagged_below tag A parts c W (HI.out.below hb) (by have := HTW.out.1; omega) (by have := HTW.out.2; omega)
        rw [HM.out.1, hM] at kt
        have HMM := Lib.hid hM
        clear hM
        go_wp2_with fail
        refine (kt _ h.below).mono ?_
        rintro e w5 ⟨rfl, b5⟩
        have h5 := h.under b5
        clear h b5 kt
        go_wp2_with fail
        refine (bu_string w.heap.size b M w5 h5.bu h5.size).mono ?_
        rintro e w6 ⟨rfl, _, b6⟩
        have b16 := h5.below.trans b6
        clear h5 b6
        go_wp2_with fail
        refine (sum_below M (by omega) w6).mono ?_
        rintro e w7 ⟨rfl, b7⟩
        go_wp2
        go_ret
        exact ⟨rfl, b16.trans (b7.mono b16.size)⟩
  · rw [decide_eq_false hf] at kFew
    go_wp2_with fail
    refine kFew.mono ?_
    clear kFew
    rintro e w' ⟨rfl, rfl⟩
    go_wp2
    go_ret
    exact ⟨rfl, b2⟩
end Go.Proofs.Ytolgldgabhhmaaa
