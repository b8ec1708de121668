/-
  CodecReads: the walk: each call of a reader returns what the reference says. Conditions: the string and the calls have bounded length.
-/
import Derived.Test.YtalailodnmfmlaaRead
import Derived.Deep.RegionHeld3
namespace Go.Proofs.Ytalailodnmfmlaa
set_option linter.unusedVariables false
open Go.RowKit

theorem runR_get (s : List UInt8) (L : List (Int × Int)) : ∀ (at_ : Nat) (e : Int) (k : Nat) (hk : k < L.length), (runR s at_ e L)[k]'(by rw [runR_length]; exact hk) = callR s (endS s at_ e (L.take k)).1 (endS s at_ e (L.take k)).2 L[k].1 L[k].2 := by
  induction L with
  | nil => intro at_ e k hk; simp at hk
  | cons p L ih =>
    intro at_ e k hk
    cases k with
    | zero => rfl
    | succ k => exact ih _ _ k (by simpa using hk)

theorem rd_at {w : World} {A : Option Addr} {xs : List Value} (h : Rd w A xs) {k : Nat} (hk : k < xs.length) : ∃ b off, A = some ⟨b, off, none⟩ ∧ b < w.heap.size ∧ ∀ j (hj : j < xs.length), w.cell? ⟨b, off + j, none⟩ = some xs[j] := by
  rcases h with h | ⟨b, off, hA, hc⟩
  · subst h; simp at hk
  · exact ⟨b, off, hA, World.block_lt_of_cell? w ⟨b, off + k, none⟩ (hc k hk), hc⟩

theorem res_cells {wr : World} {B base : Nat} {A : Option Addr} {c n : Nat} {rs : List Ans} {cs : List Value} (ho : wr.ownsRow base 47 4 (.slice A n c) n cs) (hr : ResL wr B rs cs) {k : Nat} (hk : k < rs.length) :
    ∃ b off v, A = some ⟨b, off, none⟩ ∧ b < wr.heap.size ∧ wr.cell? ⟨b, off + k * 4, none⟩ = some (.int .i64 rs[k].num) ∧ wr.cell? ⟨b, off + k * 4 + 1, none⟩ = some (.string ⟨rs[k].text.toArray⟩) ∧ wr.cell? ⟨b, off + k * 4 + 2, none⟩ = some v ∧
      wr.cell? ⟨b, off + k * 4 + 3, none⟩ = some (.int .i64 rs[k].err) ∧ wr.ownsRow B 9 1 v rs[k].list.length (strs rs[k].list) := by
  obtain ⟨v, e0, e1, e2, e3, e4⟩ := hr.at hk
  have hl := hr.length
  obtain ⟨b, off, hA, hlt, hc⟩ := rd_at (Rd.of_own ho) (k := k * 4) (by omega)
  have g : ∀ i u, i < 4 → cs[k * 4 + i]? = some u → wr.cell? ⟨b, off + k * 4 + i, none⟩ = some u := by
    intro i u hi hu
    have hlt : k * 4 + i < cs.length := by omega
    rw [List.getElem?_eq_getElem hlt] at hu
    rw [Nat.add_assoc, hc (k * 4 + i) hlt]
    exact hu
  exact ⟨b, off, v, hA, hlt, g 0 _ (by omega) e0, g 1 _ (by omega) e1, g 2 _ (by omega) e2, g 3 _ (by omega) e3, e4⟩

/-- behind 'result' -/
theorem res_after {w w1 w2 wr w4 : World} {s : List UInt8} {off' len m : Nat} {an ae err' : Int} {at2 : List UInt8} {A5 A4 : Option Addr} {c5 c4 : Nat} {xs ys : List Value}
    (h12 : w1.heap.size < w2.heap.size) (hw : w.heap.size ≤ w1.heap.size) (hr : w1.heap.size < wr.heap.size) (ol : wr.ownsRow w2.heap.size 9 1 (.slice A5 len c5) len xs) (bel : Below w.heap.size w wr)
    (o4 : w4.ownsRow (wr.alloc (.cells #[.int .i64 an, .string ⟨at2.toArray⟩, .slice A5 len c5, .int .i64 ae] 47)).heap.size 9 1 (.slice A4 m c4) m ys) (r4 : Rr w4 w1.heap.size s off' err')
    (mm : Mod (fun k => k = w1.heap.size) (wr.alloc (.cells #[.int .i64 an, .string ⟨at2.toArray⟩, .slice A5 len c5, .int .i64 ae] 47)).drew w4) :
    w4.cell? ⟨wr.heap.size, 0, none⟩ = some (.int .i64 an) ∧ w4.cell? ⟨wr.heap.size, 1, none⟩ = some (.string ⟨at2.toArray⟩) ∧ w4.cell? ⟨wr.heap.size, 2, none⟩ = some (.slice A5 len c5) ∧ w4.cell? ⟨wr.heap.size, 3, none⟩ = some (.int .i64 ae) ∧
    Rd w4 A4 ys ∧ Rd w4 A5 xs ∧ Hid (Rr w4 w1.heap.size s off' err' ∧ Below w.heap.size w w4 ∧ Mod (fun k => k = w1.heap.size) wr w4) := by
  replace mm := ((Mod.refl (fun k => k = w1.heap.size) (wr.alloc (.cells #[.int .i64 an, .string ⟨at2.toArray⟩, .slice A5 len c5, .int .i64 ae] 47))).drew).trans mm
  have hb := (Blk.new wr 47 #[.int .i64 an, .string ⟨at2.toArray⟩, .slice A5 len c5, .int .i64 ae]).mod mm (by omega)
  have m2 := mod_alloc_first _ mm
  refine ⟨by simpa using hb.cell 0, by simpa using hb.cell 1, by simpa using hb.cell 2, by simpa using hb.cell 3, Rd.of_own o4, Rd.of_own (m2.owns ol (fun k hk => ?_)), ?_⟩
  · have := (ol.lt k hk).1; omega
  · exact ⟨r4, below_step bel m2 (fun i hi he => by omega), m2⟩

set_option maxRecDepth 20000 in
set_option maxHeartbeats 2000000 in
theorem codecReads_walk (s : List UInt8) (A : Option Addr) (L : List (Int × Int)) (c : Nat) (w : World)
    (hR : Rp w A L) (hsm : s.length ≤ maxLen) (hLm : L.length ≤ maxLen) :
    Calls Try.prog 6 #[.string ⟨s.toArray⟩, .slice A L.length c] w fun e w' => e = .returned (.bool true) ∧ Below w.heap.size w w' := by
  unfold maxLen at hsm hLm
  by_cases h1 : 2000 < s.length
  · have h1' : (2000 : Int) < (s.length : Int) := by omega
    clear h1
    go_enter Try.func6, Try.ntmps6
    go_wp2_with fail
    refine (awake_spec _).mono ?_
    rintro e w1 ⟨rfl, b1⟩
    go_wp2
    go_ret
    exact ⟨rfl, b1⟩
  by_cases h2 : 30 < L.length
  · have h1' : (s.length : Int) ≤ 2000 := by omega
    have h2' : (30 : Int) < (L.length : Int) := by omega
    clear h1 h2
    go_enter Try.func6, Try.ntmps6
    go_wp2_with fail
    refine (awake_spec _).mono ?_
    rintro e w1 ⟨rfl, b1⟩
    go_wp2
    go_ret
    exact ⟨rfl, b1⟩
  have h1' : (s.length : Int) ≤ 2000 := by omega
  have h2' : (L.length : Int) ≤ 30 := by omega
  clear h1 h2 hsm hLm
  have kN := fun w => newReader_spec s w
  have kQ : ∀ w, Rp w A L → Calls Try.prog 28 #[.string ⟨s.toArray⟩, .slice A L.length c] w fun e w' => ∃ v cs, e = .returned v ∧ w'.ownsRow w.heap.size 47 4 v L.length cs ∧ ResL w' w.heap.size (runR s 0 0 L) cs ∧ Below w.heap.size w w' :=
    fun w h => read_ref s A L c w h (by omega) h2'
  go_enter Try.func6, Try.ntmps6
  go_wp2_with fail
  refine (awake_spec _).mono ?_
  rintro e' w1 ⟨rfl, b1⟩
  go_wp2_with fail
  refine (kN _).mono ?_
  clear kN
  rintro e' w2 ⟨rfl, r2, b⟩
  have b2 := below_up b1 b
  have s1 := b1.size
  clear b1 b
  go_wp2_with fail
  go_must (refine (kQ _ (hR.below b2)).mono ?_)
  clear kQ
  rintro e' w3 ⟨v, cs, rfl, o3, l3, b⟩
  have b3 := below_up b2 b
  have r3 := r2.below b
  have s2 := b2.size
  have hw1 := Blk.lt r2
  clear b2 r2 b
  obtain ⟨A3, c3, rfl, x3, y3⟩ := own_form o3
  go_wp2
  go_loopw [26, 6, 7] (fun i _ _ wr => ∃ k : Nat, k ≤ L.length ∧ i = .int .i64 k ∧ Rr wr w1.heap.size s (endS s 0 0 (L.take k)).1 (endS s 0 0 (L.take k)).2 ∧ wr.ownsRow w2.heap.size 47 4 (.slice A3 L.length c3) L.length cs ∧ ResL wr w2.heap.size (runR s 0 0 L) cs ∧ Below w.heap.size w wr) (fun i _ _ _ => L.length - (intOf i).toNat)
  case atStart => exact ⟨0, Nat.zero_le _, rfl, r3, o3, l3, b3⟩
  case round =>
    obtain ⟨k, hk, rfl, rr, oo, ll, bel⟩ := hrel
    by_cases hlt : k < L.length
    · obtain ⟨b, off, rfl, hc1, hc2⟩ := (hR.below bel).at hlt
      have hbw : b < w.heap.size := by
        obtain ⟨b', off', hA', hx1, hx2⟩ := hR.at hlt
        injection hA' with hA'
        injection hA' with hA1 hA2
        subst hA1
        exact World.block_lt_of_cell? w _ hx1
      have hi0 : (0 : Int) ≤ (k : Int) := by omega
      have hi1 : (k : Int) < (L.length : Int) := by omega
      have hre := runR_get s L 0 0 k hlt
      have hen := endS_le (s := s) (L.take k) (at_ := 0) (e := 0) (Nat.zero_le _)
      obtain ⟨n1, n2⟩ := read_next (s := s) (at_ := (endS s 0 0 (L.take k)).1) (er := (endS s 0 0 (L.take k)).2) hlt rfl rfl rfl
      have hrlt : k < (runR s 0 0 L).length := by rw [runR_length]; exact hlt
      obtain ⟨gb, goff, vl, rfl, hgb, e0, e1, e2, e3, ol⟩ := res_cells oo ll hrlt
      rw [hre] at e0 e1 e3 ol
      clear hre hrlt n2
      obtain ⟨kind, hkind⟩ : ∃ x, L[k].1 = x := ⟨_, rfl⟩
      obtain ⟨num, hnum⟩ : ∃ x, L[k].2 = x := ⟨_, rfl⟩
      rw [hkind] at hc1 e0 e1 e3 ol n1
      rw [hnum] at hc2 e0 e1 e3 ol n1
      obtain ⟨at_, hat⟩ : ∃ x, (endS s 0 0 (L.take k)).1 = x := ⟨_, rfl⟩
      obtain ⟨er, her⟩ : ∃ x, (endS s 0 0 (L.take k)).2 = x := ⟨_, rfl⟩
      rw [hat] at e0 e1 e3 ol n1 rr hen
      rw [her] at e0 e1 e3 ol n1 rr
      clear hat her hkind hnum
      have hres := fun (w : World) (h : Rr w w1.heap.size s at_ er) => result_spec w1.heap.size s at_ er kind num w h (by omega) hen
      obtain ⟨⟨an, at2, al, ao, ae⟩, ha⟩ : ∃ a, callR s at_ er kind num = a := ⟨_, rfl⟩
      rw [ha] at hres e0 e1 e3 ol n1
      clear ha hen
      simp only at hres e0 e1 e3 ol n1
      obtain ⟨A5, c5, rfl, x5, y5⟩ := own_form ol
      have rl := Blk.lt rr
      have hbr : b < wr.heap.size := by have := bel.size; omega
      have H := Lib.hid (And.intro rr (And.intro oo (And.intro ll (And.intro bel (And.intro hR (And.intro ol n1))))))
      clear rr oo ll bel hR ol n1 b3 r3 o3 l3 x3 y3
      unfold maxLen at y5
      go_wp2_with fail
      have kS : ∀ (w : World) (A B : Option Addr) (c d : Nat), Rd w A (strs al) → Rd w B (strs al) → Calls Try.prog 29 #[.agg #[.int .i64 an, .string ⟨at2.toArray⟩, .slice A al.length c, .int .i64 ae], .agg #[.int .i64 an, .string ⟨at2.toArray⟩, .slice B al.length d, .int .i64 ae]] w fun e' w' => e' = .returned (.bool true) ∧ Below w.heap.size w w' :=
        fun w A B c d h1 h2 => same_spec A B an ae at2 al c d w h1 h2 (by omega)
      go_region_with (first
          | (go_at_call 30; refine (hres _ ?_).mono ?_; exact (Blk.alloc H.out.1 _); rintro e' w4 ⟨v4, rfl, o4, r4, mm⟩; obtain ⟨A4, c4, rfl, x4, y4⟩ := own_form o4; obtain ⟨d0, d1, d2, d3, hA, hB, HR⟩ := res_after (wr := wr) hw1 s1 rl H.out.2.2.2.2.2.1 H.out.2.2.2.1 o4 r4 mm; clear o4 r4 mm x4 y4)
          | (go_at_call 29; refine (kS _ _ _ _ _ ?_ ?_).mono ?_; exact hA; exact hB; rintro e5 w5 ⟨rfl, b5⟩))
      all_goals
        go_wp2
        go_roundw
        case rel =>
          obtain ⟨hr1, hb1, hm1⟩ := HR.out
          have hm2 := hm1.trans (Mod.of_below b5 (fun k => k = w1.heap.size))
          refine ⟨k + 1, by omega, by go_num, ?_, hm2.owns H.out.2.1 (fun g hg => ?_), H.out.2.2.1.keep (fun v n xs ho => hm2.owns ho (fun g hg => ?_)), below_up hb1 b5⟩
          · rw [H.out.2.2.2.2.2.2]; exact hr1.below b5
          · have := (H.out.2.1.lt g hg).1; omega
          · have := (ho.lt g hg).1; omega
        case measure => simp [intOf]; omega
    · obtain rfl : k = L.length := by omega
      go_wp2
      go_ret
      exact ⟨rfl, bel⟩
end Go.Proofs.Ytalailodnmfmlaa
