/-
  The example that each statement checks first. Conditions: none.
-/
import Derived.Test.YtnlpakalcckaiaaSgW
import Derived.Test.YtnlpakalcckaiaaSgY
import Derived.Test.YtnlpakalcckaiaaSgQ
import Derived.Test.YtnlpakalcckaiaaShaA
namespace Go.Proofs.Ytnlpakalcckaiaa
set_option linter.unusedVariables false
open Go.RowKit Go.Shelf
attribute [local go_sem] Oper.semAt_some

set_option maxHeartbeats 400000 in
/-- slices.Equal at numbers -/
theorem equal_nints (A B : Option Addr) (L M : List Nat) (c d : Nat) (w : World) (hA : Rd w A (nints L)) (hB : Rd w B (nints M)) (hl : L.length ≤ 9223372036854775807) (hm : M.length ≤ 9223372036854775807) :
    Calls Try.prog 16 #[.slice A L.length c, .slice B M.length d] w fun e w' => e = .returned (.bool (decide (L = M))) ∧ ∃ k, w' = w.drewN k := by
  by_cases hlen : L.length = M.length
  · have hne : ((L.length : Int) != (M.length : Int)) = false := by simp [hlen]
    go_enter Try.func16, Try.ntmps16
    have HL := Lib.hid hlen; clear hlen
    go_wp2
    go_loopw [13, 5] (fun i _ wr => ∃ k : Nat, k ≤ L.length ∧ i = .int .i64 k ∧ L.take k = M.take k ∧ ∃ q, wr = w.drewN q) (fun i _ _ => L.length - (intOf i).toNat)
    case atStart => exact ⟨0, Nat.zero_le _, rfl, rfl, 0, rfl⟩
    case round =>
      obtain ⟨k, hk, rfl, htk, q, rfl⟩ := hrel
      have HT := Lib.hid htk; clear htk
      by_cases hlt : k < L.length
      · have hltM : k < M.length := by have := HL.out; omega
        obtain ⟨b, off, rfl, hc⟩ := hA.nint hlt
        obtain ⟨b', off', rfl, hc'⟩ := hB.nint hltM
        have hi0 : (0 : Int) ≤ (k : Int) := by omega
        have hi1 : (k : Int) < (L.length : Int) := by omega
        have hi2 : (k : Int) < (M.length : Int) := by omega
        by_cases he : L[k] = M[k]
        · have he1 : ((L[k] : Int) == (M[k] : Int)) = true := by simp [he]
          have HE := Lib.hid he; clear he hA hB
          go_wp2
          go_quiet (fail)
          go_wp2
          go_roundw
          case rel => exact ⟨k + 1, by omega, by go_num, by rw [List.take_succ_eq_append_getElem hlt, List.take_succ_eq_append_getElem hltM, HT.out, HE.out], _, rfl⟩
          case measure => simp [intOf]; omega
        · have he1 : ((L[k] : Int) == (M[k] : Int)) = false := by rw [beq_eq_false_iff_ne]; omega
          have he2 : ¬ ((L[k] : Int) = (M[k] : Int)) := by omega
          have HE := Lib.hid he; clear he hA hB
          go_wp2
          go_quiet (fail)
          go_wp2
          go_ret
          have hf : decide (L = M) = false := by
            simp only [decide_eq_false_iff_not]
            intro h
            subst h
            exact HE.out rfl
          exact ⟨ret_eq (congrArg Value.bool hf.symm), _, drewN_drewN _ _ _⟩
      · obtain rfl : k = L.length := by omega
        go_wp2
        go_ret
        have : L = M := by
          have h1 := HT.out
          rw [List.take_of_length_le (Nat.le_refl _), HL.out, List.take_of_length_le (Nat.le_refl _)] at h1
          exact h1
        exact ⟨ret_eq (congrArg Value.bool (by simp [this])), _, rfl⟩
  · have hne : ((L.length : Int) != (M.length : Int)) = true := by simp; omega
    have hf : decide (L = M) = false := by simp; intro h; exact hlen (by rw [h])
    rw [hf]
    clear hlen hf
    go_enter Try.func16, Try.ntmps16
    go_wp2
    go_ret
    exact ⟨rfl, 0, rfl⟩
theorem seed_spec (b : UInt8) (w : World) : Calls Try.prog 7 #[.int .u8 (b.toNat : Int)] w fun e w' => e = .returned (.string ⟨(List.replicate 32 b).toArray⟩) ∧ Below w.heap.size w w' := by
  have kr := fun W => repeat_one b 32 W (by decide)
  have hc : (convert 41 9 (.slice (some ⟨w.heap.size, 0, none⟩) 1 1)).run Try.prog (w.alloc (.cells #[.int .u8 (b.toNat : Int)] 5)) = .ok (.string ⟨[b].toArray⟩) (w.alloc (.cells #[.int .u8 (b.toNat : Int)] 5)) := conv1 _ _ b _ rfl ((Blk.new w 5 #[.int .u8 (b.toNat : Int)]).cell 0)
  have b0 := (Below.refl _ w).alloc (Nat.le_refl _) (.cells #[.int .u8 (b.toNat : Int)] 5)
  have HB := Lib.hid b0
  clear b0
  go_enter Try.func7, Try.ntmps7
  go_wp2_with fail
  refine (kr _).mono ?_
  rintro e w1 ⟨rfl, b1⟩
  go_wp2
  go_ret
  exact ⟨rfl, HB.out.trans (b1.mono HB.out.size)⟩
theorem rd_takeG {w : World} {A : Option Addr} {D : List Nat} (h : Rd w A (nints D)) (D' : List Nat) (k : Nat) (he : D' = D := by rfl) : Rd w A (nints (D'.take k)) := by
  subst he
  rcases h with h | ⟨b, off, hA, hc⟩
  · left
    have : D' = [] := by simpa [nints] using h
    subst this
    simp [nints]
  · refine .inr ⟨b, off, hA, fun j hj => ?_⟩
    have hj' : j < D'.length := by simp [nints] at hj; omega
    rw [hc j (by simp [nints]; omega)]
    simp [nints]
theorem sg_split2 : Mk.split 2 = 1 := Mk.split_unique (by omega) 0 (by decide) (by omega) (by omega)
theorem sg_root2 (a b : Mk.Str) : Mk.root [a, b] = Mk.node a b := by
  have hs : Mk.split ([a, b] : List Mk.Str).length = 1 := sg_split2
  rw [Mk.root_split _ (by simp), hs]
  show Mk.node (Mk.root [a]) (Mk.root [b]) = _
  rw [Mk.root_one, Mk.root_one]
theorem sg_incl2 (a b : Mk.Str) : Mk.incl [a, b] 0 = [b] := by
  have hs : Mk.split ([a, b] : List Mk.Str).length = 1 := sg_split2
  rw [Mk.incl_left _ _ (by simp) (by rw [hs]; decide), hs]
  show Mk.incl [a] 0 ++ [Mk.root [b]] = [b]
  rw [Mk.incl_one [a] 0 (by simp), Mk.root_one]
  rfl
theorem sg_lvs2 (seed : Sg.Str) : Sg.lvs seed (2 ^ 1) = [Sg.otl seed 0, Sg.otl seed 1] := rfl
theorem massage_no : verB (pubK Sh.seedS 1) Sh.masD 0 (Sg.chn Sh.seedS 0 Sh.msgD 67) (Mk.incl (Sg.lvs Sh.seedS (2 ^ 1)) 0) = false := by
  have hne := Sh.massage_ne
  unfold verB
  rw [pubK_last _ 1 (by decide), pubK_take, sg_lvs2, sg_incl2, sg_root2]
  rw [show (0 : Int).toNat = 0 from rfl]
  generalize Mk.leaf (Sg.ends 0 Sh.masD (Sg.chn Sh.seedS 0 Sh.msgD 67) 67) = x at *
  generalize Sg.otl Sh.seedS 0 = a at *
  generalize Sg.otl Sh.seedS 1 = t at *
  have hg : Mk.given x 0 2 [t] = (Mk.node x t, true) := by
    have := Mk.given_left x 0 2 [] t (by decide) (by rw [sg_split2]; decide)
    rw [sg_split2, Mk.given_one x 0 1 [] (by decide)] at this
    exact this
  have hb : incB x 0 (((2 ^ 1 : Nat)) : Int) [t] (Mk.node a t) = false := by
    unfold incB
    rw [show (0 : Int).toNat = 0 from rfl, show ((((2 ^ 1 : Nat)) : Int)).toNat = 2 from rfl, hg]
    have : (Mk.node x t == Mk.node a t) = false := by rw [beq_eq_false_iff_ne]; exact hne
    rw [this]
    simp
  rw [hb]
  simp only [ite_self]
set_option maxRecDepth 20000 in
set_option maxHeartbeats 4000000 in
theorem awake_sg (w : World) : Calls Try.prog 6 #[] w fun e w' => e = .returned (.bool true) ∧ Below w.heap.size w w' := by
  have hsl : Sh.seedS.length = 32 := rfl
  obtain ⟨S, hS⟩ : ∃ S, Sh.seedS = S := ⟨_, rfl⟩
  have kse := seed_spec 115 w
  have hss : List.replicate 32 (115 : UInt8) = S := hS
  rw [hss] at kse
  rw [hS] at hsl
  have hmn := massage_no
  rw [hS] at hmn
  have ho := okB_sign S 1 0 Sh.msgD (by decide)
  have hac := accepts S 1 0 Sh.msgD (by decide) (by decide) (by decide)
  have kP := fun W => public_spec S 1 0 W (by omega)
  have hpr := pubR_ok S 1 hsl (by decide)
  rw [show (((1 : Nat)) : Int) = 1 from rfl] at hpr
  rw [hpr] at kP
  have kS1 := fun W => sign_spec S [109, 101, 115, 115, 97, 103, 101] 1 0 W (by simp)
  have hs1 := signR_ok S 1 0 Sh.msgD hsl (by decide) (by decide)
  rw [show (((1 : Nat)) : Int) = 1 from rfl, show (((0 : Nat)) : Int) = 0 from rfl, show (0 : Int) + 1 = 1 from rfl] at hs1
  rw [Sh.msg_dgs, hs1] at kS1
  have kS2 := fun W => sign_spec S [109, 101, 115, 115, 97, 103, 101] 1 2 W (by simp)
  have hs2 := signR_full S 1 Sh.msgD hsl (by decide)
  rw [show (((1 : Nat)) : Int) = 1 from rfl, show (((2 ^ 1 : Nat)) : Int) = 2 from rfl] at hs2
  rw [Sh.msg_dgs, hs2] at kS2
  have kD := fun W => digits_spec [] W (by simp)
  rw [Sh.nil_dgs] at kD
  have kK := fun W => skip_spec S 1 1 1 W
  have hk := skipR_ok S 1 1 1 hsl (by decide) (by decide)
  rw [show (((1 : Nat)) : Int) = 1 from rfl, show (((1 + 1 : Nat)) : Int) = 2 from rfl] at hk
  rw [hk] at kK
  have hdec := decR_encS 0 _ _ (by decide) ho
  have henc := encE_ok 0 _ _ ho
  have hcl := Sg.chn_len S 0 Sh.msgD 67
  have hpl := pubK_len S 1
  have hp1 := pubK_last S 1 (by decide)
  have hel : (encS 0 (Sg.chn S 0 Sh.msgD 67) (Mk.incl (Sg.lvs S (2 ^ 1)) 0)).length ≤ 1099511627776 := by
    obtain ⟨_, c2, c3, c4, c5⟩ := okB_parts ho
    have h1 := vld_body c4 (by omega)
    have h2 := vld_body c5 (by omega)
    have h3 := Cd.uns_len (0 : Int).toNat
    have h4 := Cd.uns_len (Sg.chn S 0 Sh.msgD 67).length
    have h5 := Cd.uns_len (Mk.incl (Sg.lvs S (2 ^ 1)) 0).length
    unfold encS Cd.texts
    simp only [List.length_append]
    omega
  have kV := fun (msg : Sg.Str) (hm : msg.length ≤ 1073741824) (A B : Option Addr) (a b : Nat) (W : World) => verify_spec (pubK S 1) msg 0 (Sg.chn S 0 Sh.msgD 67) (Mk.incl (Sg.lvs S (2 ^ 1)) 0) A B a b W hm
  have kV1 := kV [109, 101, 115, 115, 97, 103, 101] (by simp)
  have kV2 := kV [109, 97, 115, 115, 97, 103, 101] (by simp)
  rw [Sh.msg_dgs] at kV1
  rw [Sh.mas_dgs] at kV2
  simp only [hcl] at kV1 kV2
  have kE := fun (A B : Option Addr) (a b : Nat) (W : World) => encode_spec 0 (Sg.chn S 0 Sh.msgD 67) (Mk.incl (Sg.lvs S (2 ^ 1)) 0) A B a b W (by decide)
  have kDc := fun W => decode_spec (encS 0 (Sg.chn S 0 Sh.msgD 67) (Mk.incl (Sg.lvs S (2 ^ 1)) 0)) W hel
  have kQ := fun (A B A' B' : Option Addr) (a b a' b' : Nat) (W : World) => rsame_spec 0 (Sg.chn S 0 Sh.msgD 67) (Mk.incl (Sg.lvs S (2 ^ 1)) 0) A B a b 0 (Sg.chn S 0 Sh.msgD 67) (Mk.incl (Sg.lvs S (2 ^ 1)) 0) A' B' a' b' W
  have hsam : samB 0 (Sg.chn S 0 Sh.msgD 67) (Mk.incl (Sg.lvs S (2 ^ 1)) 0) 0 (Sg.chn S 0 Sh.msgD 67) (Mk.incl (Sg.lvs S (2 ^ 1)) 0) = true := by unfold samB; simp
  rw [show (((0 : Nat)) : Int) = 0 from rfl] at hac
  simp only [hcl, henc] at kE
  rw [hdec] at kDc
  simp only [hcl, hsam] at kQ
  rw [hac] at kV1
  rw [hmn] at kV2
  have kEq := fun (A B : Option Addr) (a b : Nat) (W : World) => equal_nints A B (Sh.nilD.take 6) [14, 3, 11, 0, 12, 4] a b W
  have hq6 : decide (Sh.nilD.take 6 = [14, 3, 11, 0, 12, 4]) = true := by decide
  have hl6 : (Sh.nilD.take 6).length = 6 := by decide
  have hl6' : ([14, 3, 11, 0, 12, 4] : List Nat).length = 6 := by decide
  simp only [hq6, hl6, hl6'] at kEq
  generalize Sg.chn S 0 Sh.msgD 67 = C at *
  generalize Mk.incl (Sg.lvs S (2 ^ 1)) 0 = T at *
  generalize encS 0 C T = E at *
  generalize pubK S 1 = P at *
  generalize Sh.nilD = D at *
  unfold keyA at kK
  unfold SgP keyA at kS1 kS2
  unfold DcP at kDc
  have hpz := bytes_size P
  rw [hpl] at hpz
  have hx : ∀ hh, ((⟨P.toArray⟩ : ByteArray)[32]'hh).toNat = 1 := fun hh => by
    rw [← hp1, at_byte P 32 (by omega) hh, List.getD_eq_getElem?_getD, List.getElem?_eq_getElem (by omega)]
    rfl
  clear hmn ho hac hpr hs1 hs2 hk hdec henc hp1 hel kV hsam hss hS hsl hq6 hl6 hl6'
  dsimp only at kP kS1 kS2 kK kDc
  go_enter Try.func6, Try.ntmps6
  go_wp2_with fail
  refine kse.mono ?_
  rintro e w1 ⟨rfl, b1⟩
  have s1 := ((St.nil w).under b1).alloc 25 #[.string ⟨S.toArray⟩, .int .i64 1, .int .i64 0]
  obtain ⟨k, hk⟩ : ∃ k, w1.heap.size = k := ⟨_, rfl⟩
  rw [hk] at s1
  clear b1 kse
  go_wp2_with fail
  refine (kP _).mono ?_
  rintro e w2 ⟨rfl, b2⟩
  have s2 := s1.under b2
  have c0 := s2.blk.cell 0
  have c1 := s2.blk.cell 1
  have c2 := s2.blk.cell 2
  clear kP b2 s1
  go_wp2_with fail
  refine (kS1 _).mono ?_
  rintro e w3 ⟨a, b, rfl, t3⟩
  obtain ⟨A1, n1, rfl, p1, p2⟩ := own_form t3.own
  obtain ⟨A2, n2, rfl, p3, p4⟩ := own_form t3.tail.own
  simp only [hcl] at t3 p1 ⊢
  have s3 := s2.join t3
  have s4 := (s3.alloc 33 #[.int .i64 0, .slice A1 67 n1, .slice A2 T.length n2]).alloc 25 #[.string ⟨S.toArray⟩, .int .i64 1, .int .i64 1]
  rw [World.size_alloc] at s4
  obtain ⟨o, ho⟩ : ∃ o, w3.heap.size = o := ⟨_, rfl⟩
  rw [ho] at s4
  clear s2 s3 t3 c0 c1 c2 kS1
  go_wp2_with fail
  refine (kD _).mono ?_
  rintro e w4 ⟨A3, n3, rfl, p5, p6, t4⟩
  obtain ⟨g, rfl, hg⟩ := own_block t4.own (by decide)
  have s5 : St w.heap.size w w4 [ownR 3 1 (.slice (some ⟨g, 0, none⟩) 67 n3) 67 (nints D), cellsR (o + 1) 25 #[.string ⟨S.toArray⟩, .int .i64 1, .int .i64 1], cellsR o 33 #[.int .i64 0, .slice A1 67 n1, .slice A2 T.length n2], ownR 9 1 (.slice A1 67 n1) 67 (strs C), ownR 9 1 (.slice A2 T.length n2) T.length (strs T), cellsR k 25 #[.string ⟨S.toArray⟩, .int .i64 1, .int .i64 0]] := s4.join t4
  have c0 := s5.tail.tail.blk.cell 0
  have c1 := s5.tail.tail.blk.cell 1
  have c2 := s5.tail.tail.blk.cell 2
  clear s4 t4 kD
  go_wp2_with fail
  refine (kE A1 A2 n1 n2 _ (Rd.of_own s5.tail.tail.tail.own) (Rd.of_own s5.tail.tail.tail.tail.own) p1 p2 p3 p4).mono ?_
  rintro e w5 ⟨rfl, b5⟩
  have s6 := s5.under b5
  clear s5 b5 c0 c1 c2 kE
  go_wp2_with fail
  refine (kDc _).mono ?_
  rintro e w6 ⟨a', b', rfl, t6⟩
  obtain ⟨A4, n4, rfl, p7, p8⟩ := own_form t6.own
  obtain ⟨A5, n5, rfl, p9, p10⟩ := own_form t6.tail.own
  simp only [hcl] at t6 p7 ⊢
  have s7 := (s6.join t6).alloc 33 #[.int .i64 0, .slice A4 67 n4, .slice A5 T.length n5]
  obtain ⟨o', ho'⟩ : ∃ o', w6.heap.size = o' := ⟨_, rfl⟩
  rw [ho'] at s7
  have s7 : St w.heap.size w _ [cellsR o' 33 #[.int .i64 0, .slice A4 67 n4, .slice A5 T.length n5], ownR 9 1 (.slice A4 67 n4) 67 (strs C), ownR 9 1 (.slice A5 T.length n5) T.length (strs T), ownR 3 1 (.slice (some ⟨g, 0, none⟩) 67 n3) 67 (nints D), cellsR (o + 1) 25 #[.string ⟨S.toArray⟩, .int .i64 1, .int .i64 1], cellsR o 33 #[.int .i64 0, .slice A1 67 n1, .slice A2 T.length n2], ownR 9 1 (.slice A1 67 n1) 67 (strs C), ownR 9 1 (.slice A2 T.length n2) T.length (strs T), cellsR k 25 #[.string ⟨S.toArray⟩, .int .i64 1, .int .i64 0]] := s7
  have c0 := s7.tail.tail.tail.tail.blk.cell 0
  have c1 := s7.tail.tail.tail.tail.blk.cell 1
  have c2 := s7.tail.tail.tail.tail.blk.cell 2
  clear s6 t6 kDc
  go_wp2_with fail
  refine (kK _).mono ?_
  rintro e w7 ⟨rfl, b7⟩
  have s8 := s7.under b7
  clear s7 b7 kK c0 c1 c2
  go_wp2_with fail
  refine (kS2 _).mono ?_
  rintro e w8 ⟨x, y, rfl, t8⟩
  obtain ⟨A6, n6, rfl, _⟩ := own_form t8.own
  obtain ⟨A7, n7, rfl, _⟩ := own_form t8.tail.own
  simp only [List.length_nil] at t8 ⊢
  have s9 := ((s8.alloc0 (.cells #[.string ⟨S.toArray⟩, .int .i64 1, .int .i64 2] 25)).under t8.below)
  clear s8 t8 kS2
  have s10 := (s9.alloc0 (.cells #[.int .i64 0, .slice A6 0 n6, .slice A7 0 n7] 33)).alloc0 (.cells #[.string ⟨#[]⟩, .int .i64 0, .int .i64 0] 25)
  have d2 := s10.tail.tail.tail.tail.blk.cell 2
  have s11 := s10.alloc0 (.cells #[.int .i64 14, .int .i64 3, .int .i64 11, .int .i64 0, .int .i64 12, .int .i64 4] 3)
  have r5 := rd_takeG (Rd.of_own s11.tail.tail.tail.own) D 6 rfl
  have r6 : Rd (((w8.alloc (.cells #[.int .i64 0, .slice A6 0 n6, .slice A7 0 n7] 33)).alloc (.cells #[.string ⟨#[]⟩, .int .i64 0, .int .i64 0] 25)).alloc (.cells #[.int .i64 14, .int .i64 3, .int .i64 11, .int .i64 0, .int .i64 12, .int .i64 4] 3)) (some ⟨((w8.alloc (.cells #[.int .i64 0, .slice A6 0 n6, .slice A7 0 n7] 33)).alloc (.cells #[.string ⟨#[]⟩, .int .i64 0, .int .i64 0] 25)).heap.size, 0, none⟩) (nints [14, 3, 11, 0, 12, 4]) := rd_new _ _ _
  rw [World.size_alloc, World.size_alloc] at r6
  have kq := kEq (some ⟨g, 0, none⟩) (some ⟨w8.heap.size + 1 + 1, 0, none⟩) n3 6 _ r5 r6 (by decide) (by decide)
  have H11 := Lib.hid s11
  clear s9 s10 s11 r5 r6 kEq
  go_wp2_with fail
  refine kq.mono ?_
  rintro e w9 ⟨rfl, n, rfl⟩
  have s12 := H11.out.drewN n
  obtain ⟨w10, hw10⟩ : ∃ w10, World.drewN (((w8.alloc (.cells #[.int .i64 0, .slice A6 0 n6, .slice A7 0 n7] 33)).alloc (.cells #[.string ⟨#[]⟩, .int .i64 0, .int .i64 0] 25)).alloc (.cells #[.int .i64 14, .int .i64 3, .int .i64 11, .int .i64 0, .int .i64 12, .int .i64 4] 3)) n = w10 := ⟨_, rfl⟩
  rw [hw10] at s12 ⊢
  clear kq hw10 d2
  have c0 := s12.tail.tail.tail.tail.tail.blk.cell 0
  have c1 := s12.tail.tail.tail.tail.tail.blk.cell 1
  have c2 := s12.tail.tail.tail.tail.tail.blk.cell 2
  go_wp2_with fail
  refine (kV1 A1 A2 n1 n2 _ (Rd.of_own s12.tail.tail.tail.tail.tail.tail.own) (Rd.of_own s12.tail.tail.tail.tail.tail.tail.tail.own) p1 p2 p3 p4).mono ?_
  rintro e w11 ⟨rfl, b11⟩
  have s13 := s12.under b11
  clear s12 b11 c0 c1 c2 kV1
  have c0 := s13.tail.tail.tail.tail.tail.blk.cell 0
  have c1 := s13.tail.tail.tail.tail.tail.blk.cell 1
  have c2 := s13.tail.tail.tail.tail.tail.blk.cell 2
  go_wp2_with fail
  refine (kV2 A1 A2 n1 n2 _ (Rd.of_own s13.tail.tail.tail.tail.tail.tail.own) (Rd.of_own s13.tail.tail.tail.tail.tail.tail.tail.own) p1 p2 p3 p4).mono ?_
  rintro e w12 ⟨rfl, b12⟩
  have s14 := s13.under b12
  clear s13 b12 c0 c1 c2 kV2
  have c0 := s14.tail.tail.tail.tail.tail.blk.cell 0
  have c1 := s14.tail.tail.tail.tail.tail.blk.cell 1
  have c2 := s14.tail.tail.tail.tail.tail.blk.cell 2
  have d0 := s14.blk.cell 0
  have d1 := s14.blk.cell 1
  have d2 := s14.blk.cell 2
  go_wp2_with fail
  refine (kQ A4 A5 A1 A2 n4 n5 n1 n2 _ (Rd.of_own s14.tail.own) (Rd.of_own s14.tail.tail.own) (Rd.of_own s14.tail.tail.tail.tail.tail.tail.own) (Rd.of_own s14.tail.tail.tail.tail.tail.tail.tail.own) (Nat.le_trans p1 p2) (Nat.le_trans p3 p4) (Nat.le_trans p1 p2) (Nat.le_trans p3 p4)).mono ?_
  rintro e w13 ⟨rfl, b13⟩
  have S15 := Lib.hid (s14.under b13)
  clear s14 b13 c0 c1 c2 d0 d1 d2 kQ
  go_wp2
  go_ret
  exact ⟨rfl, S15.out.below⟩
end Go.Proofs.Ytnlpakalcckaiaa
