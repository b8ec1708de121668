/-
  The example: a signature is not accepted for another message. Conditions: none.
-/
import Derived.Test.YtnlpakalcckaiaaSgV
import Derived.Test.YtnlpakalcckaiaaShaB
import Derived.KernelRfl
namespace Go.Proofs.Ytnlpakalcckaiaa.Sh
set_option linter.unusedVariables false
theorem sha_one {α : Type} (K : Str → α) (m : Str) (w0 w1 w2 w3 w4 w5 w6 w7 w8 w9 w10 w11 w12 w13 w14 w15 : Nat) (hl : (pad m).length = 64) (hw : words (pad m) 16 = [w0, w1, w2, w3, w4, w5, w6, w7, w8, w9, w10, w11, w12, w13, w14, w15]) :
    fblock (fun a b c d e f g h => K (out ⟨a, b, c, d, e, f, g, h⟩)) iv.a iv.b iv.c iv.d iv.e iv.f iv.g iv.h w0 w1 w2 w3 w4 w5 w6 w7 w8 w9 w10 w11 w12 w13 w14 w15 = K (sha m) := by
  rw [fblock_eq _ iv iv_ok (pad m) _ _ _ _ _ _ _ _ _ _ _ _ _ _ _ _ hw, sha_block m hl]
def msgH : Str := [171, 83, 10, 19, 228, 89, 20, 152, 43, 121, 249, 183, 227, 251, 169, 148, 207, 209, 243, 251, 34, 247, 28, 234, 26, 251, 240, 43, 70, 12, 109, 29]
def msgD : List Nat := [10, 11, 5, 3, 0, 10, 1, 3, 14, 4, 5, 9, 1, 4, 9, 8, 2, 11, 7, 9, 15, 9, 11, 7, 14, 3, 15, 11, 10, 9, 9, 4, 12, 15, 13, 1, 15, 3, 15, 11, 2, 2, 15, 7, 1, 12, 14, 10, 1, 10, 15, 11, 15, 0, 2, 11, 4, 6, 0, 12, 6, 13, 1, 13, 1, 12, 1]
theorem msg_sha : sha [109, 101, 115, 115, 97, 103, 101] = msgH := by
  have h := sha_one (fun x => decide (msgH = x)) [109, 101, 115, 115, 97, 103, 101] 1835365235 1634166144 0 0 0 0 0 0 0 0 0 0 0 0 0 56 (by decide +kernel) (by decide +kernel)
  exact (of_decide_eq_true (h.symm.trans (by kernel_rfl))).symm
theorem msg_dgs : Sg.dgs [109, 101, 115, 115, 97, 103, 101] = msgD := by
  unfold Sg.dgs
  rw [msg_sha]
  decide +kernel
def masH : Str := [211, 174, 173, 188, 170, 252, 137, 14, 190, 69, 49, 155, 3, 154, 251, 35, 23, 141, 160, 32, 57, 101, 42, 63, 109, 145, 178, 156, 192, 236, 208, 122]
def masD : List Nat := [13, 3, 10, 14, 10, 13, 11, 12, 10, 10, 15, 12, 8, 9, 0, 14, 11, 14, 4, 5, 3, 1, 9, 11, 0, 3, 9, 10, 15, 11, 2, 3, 1, 7, 8, 13, 10, 0, 2, 0, 3, 9, 6, 5, 2, 10, 3, 15, 6, 13, 9, 1, 11, 2, 9, 12, 12, 0, 14, 12, 13, 0, 7, 10, 1, 12, 12]
theorem mas_sha : sha [109, 97, 115, 115, 97, 103, 101] = masH := by
  have h := sha_one (fun x => decide (masH = x)) [109, 97, 115, 115, 97, 103, 101] 1835103091 1634166144 0 0 0 0 0 0 0 0 0 0 0 0 0 56 (by decide +kernel) (by decide +kernel)
  exact (of_decide_eq_true (h.symm.trans (by kernel_rfl))).symm
theorem mas_dgs : Sg.dgs [109, 97, 115, 115, 97, 103, 101] = masD := by
  unfold Sg.dgs
  rw [mas_sha]
  decide +kernel
def nilH : Str := [227, 176, 196, 66, 152, 252, 28, 20, 154, 251, 244, 200, 153, 111, 185, 36, 39, 174, 65, 228, 100, 155, 147, 76, 164, 149, 153, 27, 120, 82, 184, 85]
def nilD : List Nat := [14, 3, 11, 0, 12, 4, 4, 2, 9, 8, 15, 12, 1, 12, 1, 4, 9, 10, 15, 11, 15, 4, 12, 8, 9, 9, 6, 15, 11, 9, 2, 4, 2, 7, 10, 14, 4, 1, 14, 4, 6, 4, 9, 11, 9, 3, 4, 12, 10, 4, 9, 5, 9, 9, 1, 11, 7, 8, 5, 2, 11, 8, 5, 5, 1, 13, 12]
theorem nil_sha : sha [] = nilH := by
  have h := sha_one (fun x => decide (nilH = x)) [] 2147483648 0 0 0 0 0 0 0 0 0 0 0 0 0 0 0 (by decide +kernel) (by decide +kernel)
  exact (of_decide_eq_true (h.symm.trans (by kernel_rfl))).symm
theorem nil_dgs : Sg.dgs [] = nilD := by
  unfold Sg.dgs
  rw [nil_sha]
  decide +kernel

/-- the ends of the chains of a key -/
noncomputable def gTop (i c : Nat) (K : Nat → Nat → Nat → Nat → Nat → Nat → Nat → Nat → Bool) : Bool := secF (wlkF K i c 15 0) i c
theorem gTop_eq (i : Nat) (hi : i < 128) (c : Nat) (hc : c < 67) : ∃ t : W8, t.Ok ∧ Sg.wlk i c 0 15 (Sg.sec seedS i c) = out t ∧ ∀ K, gTop i c K = K t.a t.b t.c t.d t.e t.f t.g t.h := by
  obtain ⟨s, hs, h1, h2⟩ := secF_eq i c hi (by omega)
  obtain ⟨t, ht, h3, h4⟩ := wlkF_eq i c hi (by omega) 15 0 s hs (by decide)
  refine ⟨t, ht, by rw [h1, h3], fun K => ?_⟩
  unfold gTop
  rw [h2, h4]
/-- the ends that another message's digits give -/
noncomputable def gMas (c : Nat) (K : Nat → Nat → Nat → Nat → Nat → Nat → Nat → Nat → Bool) : Bool := force (msgD.getD c 0) fun n => force (masD.getD c 0) fun m => secF (wlkF (wlkF K 0 c (Nat.sub 15 m) m) 0 c n 0) 0 c
theorem msgD_le (c : Nat) : msgD.getD c 0 ≤ 15 := Sg.getD_le (d := msgD) (by decide) c
theorem masD_le (c : Nat) : masD.getD c 0 ≤ 15 := Sg.getD_le (d := masD) (by decide) c
theorem gMas_eq (c : Nat) (hc : c < 67) : ∃ t : W8, t.Ok ∧ Sg.wlk 0 c (masD.getD c 0) (15 - masD.getD c 0) ((Sg.chn seedS 0 msgD 67).getD c []) = out t ∧ ∀ K, gMas c K = K t.a t.b t.c t.d t.e t.f t.g t.h := by
  have h0 : (Sg.chn seedS 0 msgD 67).getD c [] = Sg.wlk 0 c 0 (msgD.getD c 0) (Sg.sec seedS 0 c) := by
    unfold Sg.chn
    rw [List.getD_eq_getElem?_getD, List.getElem?_map, List.getElem?_range hc]
    rfl
  have hn := msgD_le c
  have hm := masD_le c
  rw [h0]
  unfold gMas
  simp only [force_eq]
  generalize msgD.getD c 0 = n at *
  generalize masD.getD c 0 = m at *
  obtain ⟨s, hs, h1, h2⟩ := secF_eq 0 c (by decide) (by omega)
  obtain ⟨t, ht, h3, h4⟩ := wlkF_eq 0 c (by decide) (by omega) n 0 s hs (by omega)
  obtain ⟨u, hu, h5, h6⟩ := wlkF_eq 0 c (by decide) (by omega) (15 - m) m t ht (by omega)
  refine ⟨u, hu, by rw [h1, h3, h5], fun K => ?_⟩
  rw [h2, h4]
  exact h6 K
noncomputable def chk : Bool := lfF (fun x0 x1 x2 x3 x4 x5 x6 x7 => lfF (fun y0 y1 y2 y3 y4 y5 y6 y7 => lfF (fun z0 z1 z2 z3 z4 z5 z6 z7 => ndF (fun a _ _ _ _ _ _ _ => ndF (fun b _ _ _ _ _ _ _ => Nat.beq a b) y0 y1 y2 y3 y4 y5 y6 y7 z0 z1 z2 z3 z4 z5 z6 z7) x0 x1 x2 x3 x4 x5 x6 x7 z0 z1 z2 z3 z4 z5 z6 z7) (gTop 1) 33 0 0 iv.a iv.b iv.c iv.d iv.e iv.f iv.g iv.h) (gTop 0) 33 0 0 iv.a iv.b iv.c iv.d iv.e iv.f iv.g iv.h) gMas 33 0 0 iv.a iv.b iv.c iv.d iv.e iv.f iv.g iv.h
theorem chk_eq : chk = false := by kernel_rfl
theorem massage_ne : ¬ Mk.node (Mk.leaf (Sg.ends 0 masD (Sg.chn seedS 0 msgD 67) 67)) (Sg.otl seedS 1) = Mk.node (Sg.otl seedS 0) (Sg.otl seedS 1) := by
  obtain ⟨x, hx, x1, x2⟩ := leaf_of (fun c => Sg.wlk 0 c (masD.getD c 0) (15 - masD.getD c 0) ((Sg.chn seedS 0 msgD 67).getD c [])) gMas gMas_eq
  obtain ⟨y, hy, y1, y2⟩ := leaf_of (fun c => Sg.wlk 0 c 0 15 (Sg.sec seedS 0 c)) (gTop 0) (gTop_eq 0 (by decide))
  obtain ⟨z, hz, z1, z2⟩ := leaf_of (fun c => Sg.wlk 1 c 0 15 (Sg.sec seedS 1 c)) (gTop 1) (gTop_eq 1 (by decide))
  obtain ⟨p, hp, p1, p2⟩ := ndF_eq (α := Bool) x z hx hz
  obtain ⟨q, hq, q1, q2⟩ := ndF_eq (α := Bool) y z hy hz
  have hxx : Mk.leaf (Sg.ends 0 masD (Sg.chn seedS 0 msgD 67) 67) = out x := x1
  have hyy : Sg.otl seedS 0 = out y := y1
  have hzz : Sg.otl seedS 1 = out z := z1
  rw [hxx, hyy, hzz, p1, q1]
  refine out_ne p q hp hq ?_
  have h := chk_eq
  unfold chk at h
  rw [x2, y2, z2, p2, q2] at h
  exact h
end Go.Proofs.Ytnlpakalcckaiaa.Sh
