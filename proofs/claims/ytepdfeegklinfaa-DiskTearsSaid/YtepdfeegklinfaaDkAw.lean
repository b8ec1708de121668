/-
  The chapter's example of the disk (awake). Conditions: none.
-/
import Derived.Test.YtepdfeegklinfaaDkU
import Derived.Test.YtepdfeegklinfaaDk1
import Derived.Test.YtepdfeegklinfaaPage
namespace Go.Proofs.Ytepdfeegklinfaa
set_option linter.unusedVariables false
open Go.RowKit Go.ChangeMaps Go.MapKept

def pg (b : UInt8) : Dk.Str := List.replicate 512 b
theorem pg_length (b : UInt8) : (pg b).length = 512 := List.length_replicate
theorem page_at (b : UInt8) (w : World) : Calls Try.prog 34 #[.int .u8 b.toNat] w fun e w' => e = .returned (.string ⟨(pg b).toArray⟩) ∧ Below w.heap.size w w' := page_spec b w
attribute [irreducible] pg
theorem pg_ne (b : UInt8) : pg b ≠ Dk.unread := by intro h; have := congrArg List.length h; rw [pg_length] at this; exact absurd this (by decide)
def aw1 : Dk.Ds := { blank 3 with rc := true }
def aw2 : Dk.Ds := Dk.write aw1 0 (pg 97)
def aw3 : Dk.Ds := Dk.write aw2 1 (pg 98)
def aw4 : Dk.Ds := Dk.write aw3 0 (pg 99)
theorem aw_err (S : Dk.Ds) (h : S.dur.length = 3) (p : Nat) (hp : p < 3) (b : UInt8) : Dk.wErr S.dur p (pg b) = 0 := by
  unfold Dk.wErr
  rw [if_neg (by omega), if_pos (pg_length b)]
theorem aw_write (S : Dk.Ds) (h : S.dur.length = 3) (p : Nat) (hp : p < 3) (b : UInt8) : Dk.write S p (pg b) = { S with pend := S.pend ++ [(p, pg b)], recd := Dk.note S ⟨p, pg b, false⟩ } := by
  unfold Dk.write
  rw [if_pos (aw_err S h p hp b)]
  rfl
theorem aw1_d : aw1.dur = [[], [], []] ∧ aw1.pend = [] ∧ aw1.recd = [] ∧ aw1.rc = true := ⟨rfl, rfl, rfl, rfl⟩
theorem aw2_d : aw2.dur = [[], [], []] ∧ aw2.pend = [(0, pg 97)] ∧ aw2.recd.length = 1 ∧ aw2.rc = true := by
  have := aw_write aw1 rfl 0 (by omega) 97
  unfold aw2
  rw [show ((0 : Nat) : Int) = 0 from rfl] at this
  rw [this]
  exact ⟨rfl, rfl, rfl, rfl⟩
theorem aw3_d : aw3.dur = [[], [], []] ∧ aw3.pend = [(0, pg 97), (1, pg 98)] ∧ aw3.recd.length = 2 ∧ aw3.rc = true := by
  obtain ⟨a, b, c, d⟩ := aw2_d
  have := aw_write aw2 (by rw [a]; rfl) 1 (by omega) 98
  unfold aw3
  rw [show ((1 : Nat) : Int) = 1 from rfl] at this
  rw [this]
  exact ⟨a, by simp [b], by simp [Dk.note, d, c], d⟩
theorem aw4_d : aw4.dur = [[], [], []] ∧ aw4.pend = [(0, pg 97), (1, pg 98), (0, pg 99)] ∧ aw4.recd.length = 3 ∧ aw4.rc = true := by
  obtain ⟨a, b, c, d⟩ := aw3_d
  have := aw_write aw3 (by rw [a]; rfl) 0 (by omega) 99
  unfold aw4
  rw [show ((0 : Nat) : Int) = 0 from rfl] at this
  rw [this]
  exact ⟨a, by simp [b], by simp [Dk.note, d, c], d⟩
theorem aw_crash : Dk.image (Dk.crash { aw4 with rc := false, recd := [] } [1, 2]).dur (Dk.crash { aw4 with rc := false, recd := [] } [1, 2]).pend = [pg 99, [33], []] := by
  obtain ⟨a, b, c, d⟩ := aw4_d
  simp only [Dk.crash, a, b]
  rfl
theorem aw_sync : Dk.image (Dk.sync (Dk.clone aw4)).dur (Dk.sync (Dk.clone aw4)).pend = [pg 99, pg 98, []] := by
  obtain ⟨a, b, c, d⟩ := aw4_d
  simp only [Dk.sync, Dk.clone, a, b]
  rfl


theorem bdrew (w : World) (n : Nat) : Below w.heap.size w (w.drewN n) := ((Mod.refl (fun _ => False) w).drewN n).below (Nat.le_refl _) (fun _ _ h => h)
theorem rd_newL (W : World) (cs : Array Value) (e : TypeId) : Rd (W.alloc (.cells cs e)) (some ⟨W.heap.size, 0, none⟩) cs.toList := by
  refine .inr ⟨W.heap.size, 0, rfl, fun j hj => ?_⟩
  rw [Nat.zero_add, (Blk.new W e cs).cell j, Array.getElem?_eq_getElem (by simpa using hj)]
  simp
set_option maxRecDepth 20000 in
set_option maxHeartbeats 4000000 in
theorem awake_disk (w : World) : Calls Try.prog 10 #[] w fun e w' => e = .returned (.bool true) ∧ Below w.heap.size w w' := by
  have h1 := new_spec 3 w (by omega) (by omega)
  have kp97 := fun w => page_at 97 w
  have kp98 := fun w => page_at 98 w
  have kp99 := fun w => page_at 99 w
  simp only [show ((97 : UInt8).toNat : Int) = 97 from rfl, show ((98 : UInt8).toNat : Int) = 98 from rfl, show ((99 : UInt8).toNat : Int) = 99 from rfl] at kp97 kp98 kp99
  go_enter Try.func10, Try.ntmps10
  go_wp2_with fail
  refine h1.mono ?_
  rintro e w1 ⟨d, rfl, D1, b1⟩
  replace D1 : Dk1 w1 w.heap.size d (blank 3) := ⟨_, D1, fun k hk => hk.1⟩
  have s1 := b1.size
  go_wp2_with fail
  refine (d1_pages D1).mono ?_
  rintro e w1' ⟨rfl, rfl⟩
  have e3 : (((blank 3).dur.length : Nat) : Int) = 3 := rfl
  rw [e3]
  go_wp2_with fail
  refine (d1_record D1 true s1).mono ?_
  rintro e w2 ⟨A0, c0, rfl, D2, b2⟩
  replace D2 : Dk1 w2 w.heap.size d aw1 := D2
  replace b2 := b1.trans b2
  clear D1 b1
  have s2 := b2.size
  go_wp2_with fail
  refine (kp97 w2).mono ?_
  rintro e w3 ⟨rfl, b3⟩
  replace D2 := D2.under b3
  replace b3 := b2.trans (b3.mono s2)
  clear b2
  have s3 := b3.size
  go_wp2_with fail
  refine (d1_write D2 0 (pg 97) s3 (by rw [aw1_d.2.2.1]; decide) (by rw [aw1_d.2.1]; decide) (by rw [pg_length]; decide)).mono ?_
  rintro e w4 ⟨rfl, D4, b4⟩
  rw [show Dk.wErr aw1.dur 0 (pg 97) = 0 from aw_err aw1 rfl 0 (by omega) 97]
  replace D4 : Dk1 w4 w.heap.size d aw2 := D4
  replace b4 := b3.trans b4
  clear b3 D2
  have s4 := b4.size
  go_wp2_with fail
  refine (kp98 w4).mono ?_
  rintro e w5 ⟨rfl, b5⟩
  replace D4 := D4.under b5
  replace b5 := b4.trans (b5.mono s4)
  clear b4
  have s5 := b5.size
  go_wp2_with fail
  refine (d1_write D4 1 (pg 98) s5 (by rw [aw2_d.2.2.1]; decide) (by rw [aw2_d.2.1]; decide) (by rw [pg_length]; decide)).mono ?_
  rintro e w6 ⟨rfl, D6, b6⟩
  rw [show Dk.wErr aw2.dur 1 (pg 98) = 0 from aw_err aw2 (by rw [aw2_d.1]; rfl) 1 (by omega) 98]
  replace D6 : Dk1 w6 w.heap.size d aw3 := D6
  replace b6 := b5.trans b6
  clear b5 D4
  have s6 := b6.size
  go_wp2_with fail
  refine (kp99 w6).mono ?_
  rintro e w7 ⟨rfl, b7⟩
  replace D6 := D6.under b7
  replace b7 := b6.trans (b7.mono s6)
  clear b6
  have s7 := b7.size
  go_wp2_with fail
  refine (d1_write D6 0 (pg 99) s7 (by rw [aw3_d.2.2.1]; decide) (by rw [aw3_d.2.1]; decide) (by rw [pg_length]; decide)).mono ?_
  rintro e w8 ⟨rfl, D8, b8⟩
  rw [show Dk.wErr aw3.dur 0 (pg 99) = 0 from aw_err aw3 (by rw [aw3_d.1]; rfl) 0 (by omega) 99]
  replace D8 : Dk1 w8 w.heap.size d aw4 := D8
  replace b8 := b7.trans b8
  clear b7 D6
  have s8 := b8.size
  go_wp2_with fail
  refine (d1_pending D8).mono ?_
  rintro e w8' ⟨rfl, rfl⟩
  rw [show ((aw4.pend.length : Nat) : Int) = 3 from by rw [aw4_d.2.1]; rfl]
  go_wp2_with fail
  refine (d1_clone D8 s8 (by rw [aw4_d.2.1]; decide)).mono ?_
  rintro e w9 ⟨c, rfl, D9, b9⟩
  replace b9 := b8.trans (b9.mono s8)
  clear b8 D8
  have s9 := b9.size
  go_wp2_with fail
  refine (d2_record D9 false s9).mono ?_
  rintro e w10 ⟨A1, c1, rfl, D10, b10⟩
  replace b10 := b9.trans b10
  clear b9 D9
  have s10 := b10.size
  rw [aw4_d.2.2.1]
  go_wp2_with fail
  have hw11 : Below w10.heap.size w10 (w10.alloc (.cells #[.int .i64 1, .int .i64 2] 3)) := (Below.refl _ w10).alloc (Nat.le_refl _) _
  have hRc : Rd (w10.alloc (.cells #[.int .i64 1, .int .i64 2] 3)) (some ⟨w10.heap.size, 0, none⟩) (ints [1, 2]) := rd_new2 w10 _ _ _
  refine (d2_crash D10 hw11 (some ⟨w10.heap.size, 0, none⟩) [1, 2] 2 s10 hRc (by decide) (fun _ p hp => by injection hp with hp; subst hp; right; exact Nat.le_refl _) (by show aw4.pend.length ≤ _; rw [aw4_d.2.1]; decide)).mono ?_
  rintro e w11 ⟨rfl, D11, b11⟩
  replace b11 := b10.trans ((hw11.mono s10).trans b11)
  clear b10 D10 hRc hw11
  have s11 := b11.size
  go_wp2_with fail
  refine (d2_sync D11.swap s11 (by decide) (by show aw4.pend.length ≤ _; rw [aw4_d.2.1]; decide)).mono ?_
  rintro e w12 ⟨rfl, D12, b12⟩
  replace b12 := b11.trans b12
  clear b11 D11
  have s12 := b12.size
  go_wp2_with fail
  refine (d1_image D12.two).mono ?_
  rintro e w13 ⟨A2, c2, rfl, R2, b13⟩
  rw [aw_crash] at R2 ⊢
  replace D12 := D12.under b13
  replace b13 := b12.trans (b13.mono s12)
  clear b12
  have s13 := b13.size
  go_wp2_with fail
  refine (kp99 w13).mono ?_
  rintro e w14 ⟨rfl, b14⟩
  replace D12 := D12.under b14
  replace R2 := R2.below b14
  replace b14 := b13.trans (b14.mono s13)
  clear b13
  have s14 := b14.size
  go_wp2_with fail
  have hw15 : Below w14.heap.size w14 (w14.alloc (.cells #[.string ⟨(pg 99).toArray⟩, .string ⟨#[33]⟩, .string ⟨#[]⟩] 9)) := (Below.refl _ w14).alloc (Nat.le_refl _) _
  have hR3 : Rd (w14.alloc (.cells #[.string ⟨(pg 99).toArray⟩, .string ⟨#[33]⟩, .string ⟨#[]⟩] 9)) (some ⟨w14.heap.size, 0, none⟩) (strs [pg 99, [33], []]) := rd_newL w14 #[.string ⟨(pg 99).toArray⟩, .string ⟨#[33]⟩, .string ⟨#[]⟩] _
  refine (equal_spec A2 (some ⟨w14.heap.size, 0, none⟩) [pg 99, [33], []] [pg 99, [33], []] c2 3 _ (R2.below hw15) hR3 (by decide) (by decide)).mono ?_
  rintro e w15 ⟨rfl, n15, rfl⟩
  have hb15 := hw15.trans ((bdrew (w14.alloc (.cells #[.string ⟨(pg 99).toArray⟩, .string ⟨#[33]⟩, .string ⟨#[]⟩] 9)) n15).mono hw15.size)
  generalize (w14.alloc (.cells #[.string ⟨(pg 99).toArray⟩, .string ⟨#[33]⟩, .string ⟨#[]⟩] 9)).drewN n15 = w15 at hb15 ⊢
  replace D12 := D12.under hb15
  replace b14 := b14.trans (hb15.mono s14)
  have s15 := b14.size
  clear hw15 hR3 R2 hb15
  rw [decide_eq_true (rfl : [pg 99, [33], []] = [pg 99, [33], []])]
  go_wp2_with fail
  refine (d1_image D12.one).mono ?_
  rintro e w16 ⟨A3, c3, rfl, R3, b16⟩
  rw [aw_sync] at R3 ⊢
  replace D12 := D12.under b16
  replace b16 := b14.trans (b16.mono s15)
  clear b14
  have s16 := b16.size
  go_wp2_with fail
  refine (kp99 w16).mono ?_
  rintro e w17 ⟨rfl, b17⟩
  replace D12 := D12.under b17
  replace R3 := R3.below b17
  replace b17 := b16.trans (b17.mono s16)
  clear b16
  have s17 := b17.size
  go_wp2_with fail
  refine (kp98 w17).mono ?_
  rintro e w18 ⟨rfl, b18⟩
  replace D12 := D12.under b18
  replace R3 := R3.below b18
  replace b18 := b17.trans (b18.mono s17)
  clear b17
  have s18 := b18.size
  go_wp2_with fail
  have hw19 : Below w18.heap.size w18 (w18.alloc (.cells #[.string ⟨(pg 99).toArray⟩, .string ⟨(pg 98).toArray⟩, .string ⟨#[]⟩] 9)) := (Below.refl _ w18).alloc (Nat.le_refl _) _
  have hR4 : Rd (w18.alloc (.cells #[.string ⟨(pg 99).toArray⟩, .string ⟨(pg 98).toArray⟩, .string ⟨#[]⟩] 9)) (some ⟨w18.heap.size, 0, none⟩) (strs [pg 99, pg 98, []]) := rd_newL w18 #[.string ⟨(pg 99).toArray⟩, .string ⟨(pg 98).toArray⟩, .string ⟨#[]⟩] _
  refine (equal_spec A3 (some ⟨w18.heap.size, 0, none⟩) [pg 99, pg 98, []] [pg 99, pg 98, []] c3 3 _ (R3.below hw19) hR4 (by decide) (by decide)).mono ?_
  rintro e w19 ⟨rfl, n19, rfl⟩
  have hb19 := hw19.trans ((bdrew (w18.alloc (.cells #[.string ⟨(pg 99).toArray⟩, .string ⟨(pg 98).toArray⟩, .string ⟨#[]⟩] 9)) n19).mono hw19.size)
  generalize (w18.alloc (.cells #[.string ⟨(pg 99).toArray⟩, .string ⟨(pg 98).toArray⟩, .string ⟨#[]⟩] 9)).drewN n19 = w19 at hb19 ⊢
  replace D12 := D12.under hb19
  replace b18 := b18.trans (hb19.mono s18)
  clear hw19 hR4 R3 hb19
  rw [decide_eq_true (rfl : [pg 99, pg 98, []] = [pg 99, pg 98, []])]
  go_wp2_with fail
  refine (d1_pending D12.one).mono ?_
  rintro e w20 ⟨rfl, rfl⟩
  rw [show (((Dk.sync (Dk.clone aw4)).pend.length : Nat) : Int) = 0 from rfl]
  go_wp2
  go_ret
  exact ⟨rfl, b18⟩
end Go.Proofs.Ytepdfeegklinfaa
