/-
  The example that each statement on checkpoints checks first: it is true. Conditions: none.
-/
import Derived.Test.YtjjpdnpbhdcpbaaGreatQCkAwA
namespace Go.Proofs.YtjjpdnpbhdcpbaaGreat
set_option linter.unusedVariables false
open Go.RowKit Go.Shelf
attribute [local go_sem] Oper.semAt_some
set_option maxHeartbeats 2000000 in
theorem awake_ck (w : World) : Calls Tryz.prog 11 #[] w fun e w' => e = .returned (.bool true) ∧ Below w.heap.size w w' := by
 have k97 := fun W => rleaf_spec [97] (by first | decide | simp) W
 have k98 := fun W => rleaf_spec [98] (by first | decide | simp) W
 have k99 := fun W => rleaf_spec [99] (by first | decide | simp) W
 have hL := leaf_dig [[97], [98], [99]]
 simp only [List.map_cons, List.map_nil] at hL
 generalize Mk.leaf [97] = la at *
 generalize Mk.leaf [98] = lb at *
 generalize Mk.leaf [99] = lc at *
 have kr := fun W => key_spec 114 W
 have kw := fun W => key_spec 119 W
 have hsr := sd_len 114
 have hsw := sd_len 119
 have hacc := rot_acc 114 114
 unfold rotRow rowOf pk1 at hacc
 dsimp only at hacc
 rw [show ((114 : UInt8).toNat : Int) = 114 from rfl] at kr
 rw [show ((119 : UInt8).toNat : Int) = 119 from rfl] at kw
 generalize sd 114 = SR at *
 generalize sd 119 = SW at *
 have kpub := fun W => rpublic_spec SR 1 0 W (by omega)
 have hpub := pubR_ok SR 1 hsr (by first | decide | simp)
 rw [show ((1 : Nat) : Int) = 1 from rfl] at hpub
 rw [hpub] at kpub
 have hvp := vpB_pub SR 1 (by first | decide | simp)
 have h2 := head_log hL 2 (by first | decide | simp)
 have h3 := head_log hL 3 (by first | decide | simp)
 have hr2 : mRoot [la, lb] = rtn [la, lb, lc] 2 := mRoot_ok (Mk.AllD.take hL 2) (by first | decide | simp)
 have hr3 : mRoot [la, lb, lc] = rtn [la, lb, lc] 3 := mRoot_ok hL (by first | decide | simp)
 have kr2 := fun W c (hR : Rd W c (strs [la, lb, lc])) => root_rk c [la, lb] 3 W (rd_take hR 2) (by first | decide | simp) (by first | decide | simp) (by first | decide | simp)
 have kr3 := fun W c (hR : Rd W c (strs [la, lb, lc])) => root_rk c [la, lb, lc] 3 W hR (by first | decide | simp) (by first | decide | simp) (by first | decide | simp)
 rw [hr2] at kr2
 rw [hr3] at kr3
 have s1 := ck_sign SR 1 0 lg ((2 : Nat) : Int) (rtn [la, lb, lc] 2) hsr (by first | decide | simp) (by first | decide | simp) h2
 have s2 := ck_sign SR 1 1 lg ((3 : Nat) : Int) (rtn [la, lb, lc] 3) hsr (by first | decide | simp) (by first | decide | simp) h3
 have v1 := ck_ver 4 SR 1 0 lg ((2 : Nat) : Int) (rtn [la, lb, lc] 2) (by first | decide | simp) (by first | decide | simp) h2
 have v2 := ck_ver 4 SR 1 1 lg ((3 : Nat) : Int) (rtn [la, lb, lc] 3) (by first | decide | simp) (by first | decide | simp) h3
 have x1 := ck_ver 5 SW 1 0 lg ((2 : Nat) : Int) (rtn [la, lb, lc] 2) (by first | decide | simp) (by first | decide | simp) h2
 have e1 : extB 0 2 (Sh.sha []) (rtn [la, lb, lc] 2) [] = true := extB_zero (Mk.AllD.take hL 2) (by first | decide | simp)
 have e2 := ext_log hL (by first | decide | simp) 2 3 (by first | decide | simp) (by first | decide | simp)
 rw [show ([la, lb, lc] : List Sg.Str).take 3 = [la, lb, lc] from rfl, mCon_ok hL (by first | decide | simp) 2 (by first | decide | simp) (by first | decide | simp), cons32] at e2
 dsimp only at e2
 have o1 := fun A1 A2 n1 n2 => obs_ok ⟨lg, pubK SR 1, SW, 1, 0, lg, 0, Sh.sha []⟩ ⟨lg, 2, rtn [la, lb, lc] 2, 0, A1, sgC SR 0 (Sg.dgs (4 :: headS lg ((2 : Nat) : Int) (rtn [la, lb, lc] 2))), n1, A2, sgT SR 1 0, n2, none, [], 0⟩ [] 1 0 v1 rfl (by show (0 : Int) ≤ 2; decide) (fun h => absurd h (by show ¬ ((2 : Int) = 0); decide)) e1 hsw (by first | decide | simp) (by first | decide | simp) rfl rfl
 have o2 := fun A3 A4 n3 n4 => obs_ok ⟨lg, pubK SR 1, SW, 1, 1, lg, 2, rtn [la, lb, lc] 2⟩ ⟨lg, 3, rtn [la, lb, lc] 3, 1, A3, sgC SR 1 (Sg.dgs (4 :: headS lg ((3 : Nat) : Int) (rtn [la, lb, lc] 3))), n3, A4, sgT SR 1 1, n4, none, [], 0⟩ [lc] 1 1 v2 rfl (by show (2 : Int) ≤ 3; decide) (fun h => absurd h (by show ¬ ((3 : Int) = 2); decide)) e2 hsw (by first | decide | simp) (by first | decide | simp) rfl rfl
 have o3 := fun A1 A2 n1 n2 => obs_less ⟨lg, pubK SR 1, SW, 1, 2, lg, 3, rtn [la, lb, lc] 3⟩ ⟨lg, 2, rtn [la, lb, lc] 2, 0, A1, sgC SR 0 (Sg.dgs (4 :: headS lg ((2 : Nat) : Int) (rtn [la, lb, lc] 2))), n1, A2, sgT SR 1 0, n2, none, [], 0⟩ [] v1 rfl (by show (2 : Int) < 3; decide)
 have cm := cmp_none [la, lb, lc] 2 (rtn [la, lb, lc] 3) ((3 : Nat) : Int) hL (by first | decide | simp)
 have nw := nw_ok lg (pubK SR 1) SW 1 (by first | decide | simp) (by first | decide | simp) hvp hsw (by first | decide | simp)
 have rt := ck_rot SR 1 0 (pubK SR 1) hsr (by first | decide | simp) (by first | decide | simp) hvp
 have hoA : okB ((0 : Nat) : Int) (sgC SR 0 (Sg.dgs (4 :: headS lg ((2 : Nat) : Int) (rtn [la, lb, lc] 2)))) (sgT SR 1 0) = true := sg_okB SR 1 0 _ (by first | decide | simp)
 have hoX : okB ((0 : Nat) : Int) (sgC SW 0 (Sg.dgs (5 :: headS lg ((2 : Nat) : Int) (rtn [la, lb, lc] 2)))) (sgT SW 1 0) = true := sg_okB SW 1 0 _ (by first | decide | simp)
 have hPW : (pubK SW 1).length = 33 := pubK_len SW 1
 rw [show ((0 : Nat) : Int) = 0 from rfl] at *
 rw [show ((1 : Nat) : Int) = 1 from rfl] at *
 rw [show ((2 : Nat) : Int) = 2 from rfl] at *
 rw [show ((3 : Nat) : Int) = 3 from rfl] at *
 have re : ckEnc lg 2 (rtn [la, lb, lc] 2) 0 (sgC SR 0 (Sg.dgs (4 :: headS lg 2 (rtn [la, lb, lc] 2)))) (sgT SR 1 0) [rowOf (pubK SW 1) (0, (sgC SW 0 (Sg.dgs (5 :: headS lg 2 (rtn [la, lb, lc] 2)))), (sgT SW 1 0))] = ((ckEnc lg 2 (rtn [la, lb, lc] 2) 0 (sgC SR 0 (Sg.dgs (4 :: headS lg 2 (rtn [la, lb, lc] 2)))) (sgT SR 1 0) [rowOf (pubK SW 1) (0, (sgC SW 0 (Sg.dgs (5 :: headS lg 2 (rtn [la, lb, lc] 2)))), (sgT SW 1 0))]).1, 0) := by
  rw [ckEnc_ok lg 2 (rtn [la, lb, lc] 2) 0 (sgC SR 0 (Sg.dgs (4 :: headS lg 2 (rtn [la, lb, lc] 2)))) (sgT SR 1 0) [rowOf (pubK SW 1) (0, (sgC SW 0 (Sg.dgs (5 :: headS lg 2 (rtn [la, lb, lc] 2)))), (sgT SW 1 0))] hoA h2 (by simp) (fun x hx => by (rw [List.mem_singleton.1 hx]; exact ⟨hoX, by (show ((pubK SW 1)).length ≤ 65536); omega, by (show (0 : Int) < 9223372036854775808); decide⟩))]
 have rl : ((ckEnc lg 2 (rtn [la, lb, lc] 2) 0 (sgC SR 0 (Sg.dgs (4 :: headS lg 2 (rtn [la, lb, lc] 2)))) (sgT SR 1 0) [rowOf (pubK SW 1) (0, (sgC SW 0 (Sg.dgs (5 :: headS lg 2 (rtn [la, lb, lc] 2)))), (sgT SW 1 0))]).1).length ≤ 1099511627776 := by
  rw [ckEnc_ok lg 2 (rtn [la, lb, lc] 2) 0 (sgC SR 0 (Sg.dgs (4 :: headS lg 2 (rtn [la, lb, lc] 2)))) (sgT SR 1 0) [rowOf (pubK SW 1) (0, (sgC SW 0 (Sg.dgs (5 :: headS lg 2 (rtn [la, lb, lc] 2)))), (sgT SW 1 0))] hoA h2 (by simp) (fun x hx => by (rw [List.mem_singleton.1 hx]; exact ⟨hoX, by (show ((pubK SW 1)).length ≤ 65536); omega, by (show (0 : Int) < 9223372036854775808); decide⟩))]
  have l1 := headS_len h2
  have l2 := encS_small hoA
  have l3 := encS_small hoX
  have l4 := Cd.uns_len ([rowOf (pubK SW 1) (0, (sgC SW 0 (Sg.dgs (5 :: headS lg 2 (rtn [la, lb, lc] 2)))), (sgT SW 1 0))] : List SgRow).length
  have l5 := Cd.uns_len ((pubK SW 1)).length
  have l6 : (rowsB [rowOf (pubK SW 1) (0, (sgC SW 0 (Sg.dgs (5 :: headS lg 2 (rtn [la, lb, lc] 2)))), (sgT SW 1 0))]).length = (Cd.uns ((pubK SW 1)).length).length + ((pubK SW 1)).length + (encS 0 (sgC SW 0 (Sg.dgs (5 :: headS lg 2 (rtn [la, lb, lc] 2)))) (sgT SW 1 0)).length := by
   unfold rowsB
   rw [List.flatMap_singleton, List.length_append]
   unfold Cd.text rowOf
   rw [List.length_append]
  rw [List.length_append, List.length_append, List.length_append, l6]
  omega
 have rd := ckDec_enc lg 2 (rtn [la, lb, lc] 2) 0 (sgC SR 0 (Sg.dgs (4 :: headS lg 2 (rtn [la, lb, lc] 2)))) (sgT SR 1 0) [rowOf (pubK SW 1) (0, (sgC SW 0 (Sg.dgs (5 :: headS lg 2 (rtn [la, lb, lc] 2)))), (sgT SW 1 0))] hoA h2 (by simp) (fun x hx => by (rw [List.mem_singleton.1 hx]; exact ⟨hoX, by (show ((pubK SW 1)).length ≤ 65536); omega, by (show (0 : Int) < 9223372036854775808); decide⟩)) (by decide)
 generalize hdata : (ckEnc lg 2 (rtn [la, lb, lc] 2) 0 (sgC SR 0 (Sg.dgs (4 :: headS lg 2 (rtn [la, lb, lc] 2)))) (sgT SR 1 0) [rowOf (pubK SW 1) (0, (sgC SW 0 (Sg.dgs (5 :: headS lg 2 (rtn [la, lb, lc] 2)))), (sgT SW 1 0))]).1 = data at *
 have rw1 : ∀ (X : Option Addr) (c : Nat) (A5 : Option Addr) (n5 : Nat) (A6 : Option Addr) (n6 : Nat), ckEnc lg 2 (rtn [la, lb, lc] 2) 0 (sgC SR 0 (Sg.dgs (4 :: headS lg 2 (rtn [la, lb, lc] 2)))) (sgT SR 1 0) [⟨(pubK SW 1), 0, A5, (sgC SW 0 (Sg.dgs (5 :: headS lg 2 (rtn [la, lb, lc] 2)))), n5, A6, (sgT SW 1 0), n6⟩] = (data, 0) := fun X c A5 n5 A6 n6 => by
  rw [← re]
  exact (ckEnc_strip lg 2 (rtn [la, lb, lc] 2) 0 (sgC SR 0 (Sg.dgs (4 :: headS lg 2 (rtn [la, lb, lc] 2)))) (sgT SR 1 0) [⟨(pubK SW 1), 0, A5, (sgC SW 0 (Sg.dgs (5 :: headS lg 2 (rtn [la, lb, lc] 2)))), n5, A6, (sgT SW 1 0), n6⟩]).symm
 refine awake_walk la lb lc SR SW (pubK SR 1) (pubK SW 1) (Sh.sha []) (rtn [la, lb, lc] 2) (rtn [la, lb, lc] 3) data (sgC SR 0 (Sg.dgs (4 :: headS lg 2 (rtn [la, lb, lc] 2)))) (sgT SR 1 0) (sgC SR 1 (Sg.dgs (4 :: headS lg 3 (rtn [la, lb, lc] 3)))) (sgT SR 1 1) (sgC SW 0 (Sg.dgs (5 :: headS lg 2 (rtn [la, lb, lc] 2)))) (sgT SW 1 0) (sgC SW 1 (Sg.dgs (5 :: headS lg 3 (rtn [la, lb, lc] 3)))) (sgT SW 1 1) (sgC SR 0 (Sg.dgs (6 :: pubK SR 1))) (sgT SR 1 0) k97 k98 k99 kr kw kpub kr2 kr3 ?ks1 ?ks2 ?knw ?kva ?kvn ?ko1 ?ko2 ?ko3 ?kcmp ?kenc ?kdec ?krot ?kfol ?kcos ?ksame ?kchk w
 case ks1 =>
  intro W
  have := cksign_spec SR 1 0 lg 2 (rtn [la, lb, lc] 2) W
  rw [s1] at this
  exact this
 case ks2 =>
  intro W
  have := cksign_spec SR 1 1 lg 3 (rtn [la, lb, lc] 3) W
  rw [s2] at this
  exact this
 case knw =>
  intro W
  have := newwit_spec lg (pubK SR 1) SW 1 0 W
  rw [nw] at this
  exact this
 case kva =>
  intro W A1 A2 n1 n2 r1 r2 u1 u2 u3 u4
  have := ckverify_spec (pubK SR 1) lg 2 (rtn [la, lb, lc] 2) 0 (sgC SR 0 (Sg.dgs (4 :: headS lg 2 (rtn [la, lb, lc] 2)))) (sgT SR 1 0) A1 A2 none n1 n2 0 0 W r1 r2 u1 u2 u3 u4
  rw [v1] at this
  exact this
 case kvn =>
  intro W A1 A2 n1 n2 r1 r2 u1 u2 u3 u4
  have := ckverify_spec [] lg 2 (rtn [la, lb, lc] 2) 0 (sgC SR 0 (Sg.dgs (4 :: headS lg 2 (rtn [la, lb, lc] 2)))) (sgT SR 1 0) A1 A2 none n1 n2 0 0 W r1 r2 u1 u2 u3 u4
  rw [ck_nokey] at this
  exact this
 case ko1 =>
  intro W A1 A2 n1 n2 r1 r2 u1 u2 u3 u4
  have := observe_spec ⟨lg, (pubK SR 1), SW, 1, 0, lg, 0, Sh.sha []⟩ ⟨lg, 2, (rtn [la, lb, lc] 2), 0, A1, (sgC SR 0 (Sg.dgs (4 :: headS lg 2 (rtn [la, lb, lc] 2)))), n1, A2, (sgT SR 1 0), n2, none, [], 0⟩ none [] 0 W ⟨r1, r2, u1, u2, u3, u4, ⟨.inl rfl, fun x hx => by cases hx⟩, Nat.le_refl _, Nat.zero_le _⟩ (.inl rfl) (Nat.le_refl _) (Nat.zero_le _) (by show SW.length ≤ 1073741824; omega)
  rw [o1 A1 A2 n1 n2] at this
  exact this
 case ko2 =>
  intro W A3 A4 n3 n4 P d r1 r2 u1 u2 u3 u4 hP h1 hd
  have := observe_spec ⟨lg, (pubK SR 1), SW, 1, 1, lg, 2, (rtn [la, lb, lc] 2)⟩ ⟨lg, 3, (rtn [la, lb, lc] 3), 1, A3, (sgC SR 1 (Sg.dgs (4 :: headS lg 3 (rtn [la, lb, lc] 3)))), n3, A4, (sgT SR 1 1), n4, none, [], 0⟩ P [lc] d W ⟨r1, r2, u1, u2, u3, u4, ⟨.inl rfl, fun x hx => by cases hx⟩, Nat.le_refl _, Nat.zero_le _⟩ hP h1 hd (by show SW.length ≤ 1073741824; omega)
  rw [o2 A3 A4 n3 n4] at this
  exact this
 case ko3 =>
  intro W A1 A2 n1 n2 r1 r2 u1 u2 u3 u4
  have := observe_spec ⟨lg, (pubK SR 1), SW, 1, 2, lg, 3, (rtn [la, lb, lc] 3)⟩ ⟨lg, 2, (rtn [la, lb, lc] 2), 0, A1, (sgC SR 0 (Sg.dgs (4 :: headS lg 2 (rtn [la, lb, lc] 2)))), n1, A2, (sgT SR 1 0), n2, none, [], 0⟩ none [] 0 W ⟨r1, r2, u1, u2, u3, u4, ⟨.inl rfl, fun x hx => by cases hx⟩, Nat.le_refl _, Nat.zero_le _⟩ (.inl rfl) (Nat.le_refl _) (Nat.zero_le _) (by show SW.length ≤ 1073741824; omega)
  rw [o3 A1 A2 n1 n2] at this
  exact this.mono fun e w' ⟨a, b, h1, h2⟩ => ⟨a, b, h1, h2.below⟩
 case kcmp =>
  intro W A1 A2 n1 n2 A3 A4 n3 n4 Y hY
  have := compare_spec ⟨lg, 2, (rtn [la, lb, lc] 2), 0, A1, (sgC SR 0 (Sg.dgs (4 :: headS lg 2 (rtn [la, lb, lc] 2)))), n1, A2, (sgT SR 1 0), n2, none, [], 0⟩ ⟨lg, 3, (rtn [la, lb, lc] 3), 1, A3, (sgC SR 1 (Sg.dgs (4 :: headS lg 3 (rtn [la, lb, lc] 3)))), n3, A4, (sgT SR 1 1), n4, none, [], 0⟩ Y [la, lb, lc] 3 W hY (by simp) (by simp) (by decide)
  rw [cm] at this
  refine this.mono fun e w' ⟨pv, h1, h2⟩ => ?_
  obtain ⟨p1, p3, rfl, _, _⟩ := own_form h2.own
  exact ⟨p1, _, p3, h1, h2.below⟩
 case kenc =>
  intro W A1 A2 n1 n2 X c A5 n5 A6 n6 r1 r2 u1 u2 u3 u4 hR
  have := ckencode_spec lg 2 (rtn [la, lb, lc] 2) 0 A1 A2 (sgC SR 0 (Sg.dgs (4 :: headS lg 2 (rtn [la, lb, lc] 2)))) (sgT SR 1 0) n1 n2 X [⟨(pubK SW 1), 0, A5, (sgC SW 0 (Sg.dgs (5 :: headS lg 2 (rtn [la, lb, lc] 2)))), n5, A6, (sgT SW 1 0), n6⟩] c W hR (fun x hx => by (rw [List.mem_singleton.1 hx]; show (0 : Int) < 9223372036854775808; decide)) (by decide) r1 r2 u1 u2 u3 u4
  rw [rw1 X c A5 n5 A6 n6] at this
  exact this
 case kdec =>
  intro W
  have := ckdecode_spec data W rl
  rw [rd] at this
  exact this
 case krot =>
  intro W
  have := ckrot_spec SR 1 0 (pubK SR 1) W
  rw [rt] at this
  exact this
 case kfol =>
  intro W X c A7 n7 A8 n8 hR
  have := follow_spec (pubK SR 1) X [⟨(pubK SR 1), 0, A7, (sgC SR 0 (Sg.dgs (6 :: pubK SR 1))), n7, A8, (sgT SR 1 0), n8⟩] c W hR
  have hf : followR (pubK SR 1) [(⟨(pubK SR 1), 0, A7, (sgC SR 0 (Sg.dgs (6 :: pubK SR 1))), n7, A8, (sgT SR 1 0), n8⟩ : SgRow)] = ((pubK SR 1), 0) := by
   unfold followR
   rw [if_pos (by simp)]
   show (if vpB (pubK SR 1) = true then (if verB (pubK SR 1) (Sg.dgs (6 :: (pubK SR 1))) 0 (sgC SR 0 (Sg.dgs (6 :: pubK SR 1))) (sgT SR 1 0) = true then flwR (pubK SR 1) [] else ([], 18)) else ([], 18)) = _
   rw [if_pos hvp, if_pos hacc]
   rfl
  rw [hf] at this
  exact this
 case kcos =>
  intro W A1 A2 n1 n2 X c A5 n5 A6 n6 Y d hR h1 hc hY
  have := cosigned_spec lg 2 (rtn [la, lb, lc] 2) 0 A1 A2 (sgC SR 0 (Sg.dgs (4 :: headS lg 2 (rtn [la, lb, lc] 2)))) (sgT SR 1 0) n1 n2 X [⟨(pubK SW 1), 0, A5, (sgC SW 0 (Sg.dgs (5 :: headS lg 2 (rtn [la, lb, lc] 2)))), n5, A6, (sgT SW 1 0), n6⟩] c Y [(pubK SW 1)] d W hR h1 hc hY (by simp) (fun s hs => by (rw [List.mem_singleton.1 hs, hPW]; decide))
  have hv : verB (pubK SW 1) (Sg.dgs (5 :: headS lg 2 (rtn [la, lb, lc] 2))) 0 (sgC SW 0 (Sg.dgs (5 :: headS lg 2 (rtn [la, lb, lc] 2)))) (sgT SW 1 0) = true := by
   have h := x1
   unfold ckB at h
   rw [if_pos h2] at h
   exact h
  rw [cos_one lg 2 (rtn [la, lb, lc] 2) ⟨(pubK SW 1), 0, A5, (sgC SW 0 (Sg.dgs (5 :: headS lg 2 (rtn [la, lb, lc] 2)))), n5, A6, (sgT SW 1 0), n6⟩ h2 hv] at this
  exact this
 case ksame =>
  intro W V A1 A2 n1 n2 X c A5 n5 A6 n6 hV okV okA
  have := sameV_spec V ⟨lg, 2, (rtn [la, lb, lc] 2), 0, A1, (sgC SR 0 (Sg.dgs (4 :: headS lg 2 (rtn [la, lb, lc] 2)))), n1, A2, (sgT SR 1 0), n2, X, [⟨(pubK SW 1), 0, A5, (sgC SW 0 (Sg.dgs (5 :: headS lg 2 (rtn [la, lb, lc] 2)))), n5, A6, (sgT SW 1 0), n6⟩], c⟩ W okV okA
  rw [sameV_strip V _ (by (rw [hV]; rfl))] at this
  exact this
 case kchk =>
  intro W A1 A2 n1 n2 A3 A4 n3 n4 X c r1 r2 u1 u2 u3 u4 r3 r4 u5 u6 u7 u8
  have := check_spec (pubK SR 1) lg 2 (rtn [la, lb, lc] 2) 0 A1 (sgC SR 0 (Sg.dgs (4 :: headS lg 2 (rtn [la, lb, lc] 2)))) n1 A2 (sgT SR 1 0) n2 X 1 c lg 3 (rtn [la, lb, lc] 3) 1 A3 (sgC SR 1 (Sg.dgs (4 :: headS lg 3 (rtn [la, lb, lc] 3)))) n3 A4 (sgT SR 1 1) n4 none 0 0 [] none [] 0 W r1 r2 u1 u2 u3 u4 r3 r4 u5 u6 u7 u8 (.inl rfl) (Nat.le_refl _) (Nat.zero_le _)
  rw [chk_noroot] at this
  exact this
end Go.Proofs.YtjjpdnpbhdcpbaaGreat
