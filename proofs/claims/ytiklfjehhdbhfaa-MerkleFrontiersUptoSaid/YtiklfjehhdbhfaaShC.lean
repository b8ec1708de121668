/-
  The schedule of the program's SHA-256. Conditions: blocks of 64 bytes.
-/
import Derived.Test.YtiklfjehhdbhfaaShB
import Derived.Deep.RegionHeld3
namespace Go.Proofs.Ytiklfjehhdbhfaa
set_option linter.unusedVariables false
open Go.RowKit

/-- the schedule so far, then zeros -/
def padz (l : List Nat) : List Nat := l ++ List.replicate (64 - l.length) 0
theorem padz_length (l : List Nat) (h : l.length ≤ 64) : (padz l).length = 64 := by simp [padz]; omega
theorem zero_arr : (#[.int .u32 0, .int .u32 0, .int .u32 0, .int .u32 0, .int .u32 0, .int .u32 0, .int .u32 0, .int .u32 0, .int .u32 0, .int .u32 0, .int .u32 0, .int .u32 0, .int .u32 0, .int .u32 0, .int .u32 0, .int .u32 0,
    .int .u32 0, .int .u32 0, .int .u32 0, .int .u32 0, .int .u32 0, .int .u32 0, .int .u32 0, .int .u32 0, .int .u32 0, .int .u32 0, .int .u32 0, .int .u32 0, .int .u32 0, .int .u32 0, .int .u32 0, .int .u32 0,
    .int .u32 0, .int .u32 0, .int .u32 0, .int .u32 0, .int .u32 0, .int .u32 0, .int .u32 0, .int .u32 0, .int .u32 0, .int .u32 0, .int .u32 0, .int .u32 0, .int .u32 0, .int .u32 0, .int .u32 0, .int .u32 0,
    .int .u32 0, .int .u32 0, .int .u32 0, .int .u32 0, .int .u32 0, .int .u32 0, .int .u32 0, .int .u32 0, .int .u32 0, .int .u32 0, .int .u32 0, .int .u32 0, .int .u32 0, .int .u32 0, .int .u32 0, .int .u32 0] : Array Value) = arr (padz []) := rfl
theorem padz_set (l : List Nat) (x : Nat) (h : l.length < 64) : (padz l).set l.length x = padz (l ++ [x]) := by
  unfold padz
  rw [List.set_append_right _ _ (Nat.le_refl _), Nat.sub_self, show 64 - l.length = (64 - (l ++ [x]).length) + 1 by simp; omega, List.replicate_succ, List.set_cons_zero]
  simp
theorem padz_at (l : List Nat) (h : l.length < 64) : (padz l).set l.length 0 = padz l := by
  unfold padz
  rw [List.set_append_right _ _ (Nat.le_refl _), Nat.sub_self, show 64 - l.length = (64 - (l.length + 1)) + 1 by omega, List.replicate_succ, List.set_cons_zero]
theorem arr_get (l : List Nat) (j : Nat) (h : j < l.length) : (arr l)[j]? = some (.int .u32 ((l.getD j 0 : Nat) : Int)) := by
  simp [arr, u32s, h]
theorem padz_get (l : List Nat) (j : Nat) (h : j < l.length) : (padz l).getD j 0 = l.getD j 0 := by
  simp [padz, List.getD_eq_getElem?_getD, List.getElem?_append_left h]
theorem set_get (l : List Nat) (n v : Nat) (h : n < l.length) : (l.set n v).getD n 0 = v := by simp [List.getD_eq_getElem?_getD, h]
/-- a word of which k bytes are read -/
def pw (b : Sh.Str) (n : Nat) : Nat → Nat
  | 0 => 0
  | k + 1 => pw b n k * 256 + (b.getD (4 * n + k) 0).toNat
theorem pw_lt (b : Sh.Str) (n : Nat) : ∀ k, pw b n k < 256 ^ k
  | 0 => by simp [pw]
  | k + 1 => by
    have := pw_lt b n k
    have h2 := (b.getD (4 * n + k) 0).toNat_lt
    unfold pw
    rw [Nat.pow_succ]
    omega
theorem pw_four (b : Sh.Str) (n : Nat) : pw b n 4 = Sh.word (b.getD (4 * n) 0).toNat (b.getD (4 * n + 1) 0).toNat (b.getD (4 * n + 2) 0).toNat (b.getD (4 * n + 3) 0).toNat := by simp [pw, Sh.word]
theorem shl_or (p x : Nat) (hp : p < 16777216) (hx : x < 256) : bits .or .u32 ((p : Int) * 256) ((x : Int) % 4294967296) = ((p * 256 + x : Nat) : Int) := by
  have e : (p : Int) * 256 = ((p * 256 : Nat) : Int) := by omega
  have e2 : (x : Int) % 4294967296 = ((x : Nat) : Int) := by omega
  rw [e, e2, u32_or_nat _ _ (by omega) (by omega)]
  congr 1
  have := Nat.two_pow_add_eq_or_of_lt (i := 8) (b := x) (by simpa using hx) p
  rw [Nat.mul_comm, show (256 : Nat) = 2 ^ 8 from rfl, this]
theorem sched_take16 (b : Sh.Str) (n : Nat) (h : n ≤ 16) : (Sh.sched b).take n = Sh.words b n := by
  have := Sh.extend_take 48 (Sh.words b 16) 0 (by omega)
  rw [Sh.words_length] at this
  have h2 : (Sh.sched b).take n = ((Sh.sched b).take 16).take n := by rw [List.take_take, Nat.min_eq_left h]
  rw [h2]
  show ((Sh.extend 48 (Sh.words b 16)).take (16 + 0)).take n = _
  rw [this]
  simp [Sh.extend, Sh.words, ← List.map_take, List.take_range, Nat.min_eq_left h]
theorem sched_next (b : Sh.Str) (n : Nat) (h : n < 16) : (Sh.sched b).take (n + 1) = (Sh.sched b).take n ++ [pw b n 4] := by
  rw [sched_take16 b (n + 1) (by omega), sched_take16 b n (by omega), Sh.words_succ, pw_four]
set_option maxRecDepth 20000 in
set_option maxHeartbeats 2000000 in
theorem schedule_spec (b : Sh.Str) (hb : b.length = 64) (w : World) : Calls Try.prog 86 #[.string ⟨b.toArray⟩] w fun e w' => e = .returned (.agg (arr (Sh.sched b))) ∧ Below w.heap.size w w' := by
  have HB := Lib.hid hb
  clear hb
  have h0 := ((St.nil w).alloc 95 (arr (padz []))).alloc 95 (arr (padz []))
  rw [World.size_alloc] at h0
  obtain ⟨W, hW⟩ : ∃ W, (w.alloc (.cells (arr (padz [])) 95)).alloc (.cells (arr (padz [])) 95) = W := ⟨_, rfl⟩
  go_enter Try.func86, Try.ntmps86
  go_wp2
  change Code.wp _ _ _ _ ((w.alloc (.cells (arr (padz [])) 95)).alloc (.cells (arr (padz [])) 95))
  rw [hW]
  rw [hW] at h0
  clear hW
  have hg1 : w.heap.size + 1 ≠ w.heap.size := by omega
  obtain ⟨lo, hlo⟩ : ∃ lo, w.heap.size = lo := ⟨_, rfl⟩
  have HLo := Lib.hid hlo
  rw [hlo] at h0 hg1 ⊢
  generalize hg : lo + 1 = g at h0 hg1 ⊢
  go_loopw [7] (fun i wr => ∃ n : Nat, n ≤ 64 ∧ i = .int .i64 n ∧ St lo w wr [cellsR g 95 (arr (padz ((Sh.sched b).take n))), cellsR lo 95 (arr (padz []))]) (fun i _ => 64 - (intOf i).toNat)
  case atStart => exact ⟨0, by omega, rfl, h0⟩
  case round =>
    obtain ⟨n, hn, rfl, h⟩ := hrel
    clear h0 hg hlo
    have hl : ((Sh.sched b).take n).length = n := by rw [List.length_take, Sh.sched_length]; omega
    by_cases hlt : n < 64
    · have hk1 : (n : Int) < 64 := by omega
      have hk0 : (0 : Int) ≤ (n : Int) := by omega
      by_cases h16 : n < 16
      · have h16' : (n : Int) < 16 := by omega
        have HL := Lib.hid hl
        clear hl
        go_wp2
        go_loopw [12] (fun i wr => ∃ k : Nat, k ≤ 4 ∧ i = .int .i64 k ∧ St lo w wr [cellsR g 95 (arr ((padz ((Sh.sched b).take n)).set n (pw b n k))), cellsR lo 95 (arr (padz []))]) (fun i _ => 4 - (intOf i).toNat)
        case atStart =>
          have := padz_at ((Sh.sched b).take n) (by rw [HL.out]; omega)
          rw [HL.out] at this
          exact ⟨0, by omega, rfl, by rw [pw, this]; exact h⟩
        case round =>
          obtain ⟨k, hk, rfl, h2⟩ := hrel
          clear h
          by_cases hlt2 : k < 4
          · have hk2 : (k : Int) < 4 := by omega
            have hk3 : (0 : Int) ≤ (k : Int) := by omega
            obtain ⟨x, hx⟩ : ∃ x : UInt8, ∀ h, (⟨b.toArray⟩ : ByteArray)[4 * n + k]'h = x := ⟨b[4 * n + k]'(by rw [HB.out]; omega), fun h => rfl⟩
            have hxg : b.getD (4 * n + k) 0 = x := by
              have hh : 4 * n + k < b.length := by rw [HB.out]; omega
              have := hx (by show 4 * n + k < b.toArray.size; simpa using hh)
              rw [← this]
              simp [hh]
              rfl
            have hsz : (⟨b.toArray⟩ : ByteArray).size = 64 := by rw [bytes_size, HB.out]
            have hp := pw_lt b n k
            have hp2 : pw b n k < 16777216 := Nat.lt_of_lt_of_le hp (by have : 256 ^ k ≤ 256 ^ 3 := Nat.pow_le_pow_right (by decide) (by omega); simpa using this)
            have hor := shl_or (pw b n k) x.toNat hp2 x.toNat_lt
            have hpw : pw b n (k + 1) = pw b n k * 256 + x.toNat := by rw [pw, hxg]
            rw [← hpw] at hor
            have bg := h2.blk
            have kg : wr.cell? ⟨g, n, none⟩ = some (.int .u32 (pw b n k)) := by
              rw [bg.cell, arr_get _ _ (by rw [List.length_set, padz_length _ (by rw [HL.out]; omega)]; omega)]
              rw [set_get _ _ _ (by rw [padz_length _ (by rw [HL.out]; omega)]; omega)]
            have fg := bg.frozen n
            have lg := bg.lt
            clear bg hxg hpw
            obtain ⟨v, hv⟩ : ∃ v, pw b n (k + 1) = v := ⟨_, rfl⟩
            rw [hv] at hor
            have HV := Lib.hid hv
            clear hv
            go_wp2_with fail
            have hi0 : (0 : Int) ≤ 4 * (n : Int) + (k : Int) := by omega
            have hi1 : 4 * (n : Int) + (k : Int) < (b.length : Int) := by rw [HB.out]; omega
            have hin : (4 * (n : Int) + (k : Int)).toNat = 4 * n + k := by omega
            have hi2 : 4 * n + k < b.length := by rw [HB.out]; omega
            clear hsz
            go_region
            go_wp2
            go_roundw
            case rel =>
              refine ⟨k + 1, by omega, by go_num, ?_⟩
              have h3 := h2.set_ n (.int .u32 (v : Int))
              rw [arr_set, List.set_set] at h3
              rw [HV.out]
              exact h3.drew
            case measure => simp [intOf]; omega
          · obtain rfl : k = 4 := by omega
            have h3 := padz_set ((Sh.sched b).take n) (pw b n 4) (by rw [HL.out]; omega)
            rw [HL.out, ← sched_next b n h16] at h3
            rw [h3] at h2
            clear h3
            go_wp2
            go_roundw
            case rel => exact ⟨n + 1, by omega, by go_num, h2⟩
            case measure => simp [intOf]; omega
      · have h16' : decide ((n : Int) < 16) = false := by simp; omega
        have bg := h.blk
        have cl : ∀ j, j < n → wr.cell? ⟨g, j, none⟩ = some (.int .u32 ((((Sh.sched b).take n).getD j 0 : Nat) : Int)) := fun j hj => by
          rw [bg.cell, arr_get _ _ (by rw [padz_length _ (by omega)]; omega), padz_get _ _ (by omega)]
        have lt : ∀ j, j < n → ((Sh.sched b).take n).getD j 0 < 4294967296 := fun j hj => by
          have hjl : j < ((Sh.sched b).take n).length := by omega
          rw [List.getD_eq_getElem?_getD, List.getElem?_eq_getElem hjl]
          exact Sh.sched_lt b _ (List.mem_of_mem_take (List.getElem_mem hjl))
        have c2 := cl (n - 2) (by omega)
        have c7 := cl (n - 7) (by omega)
        have c15 := cl (n - 15) (by omega)
        have c16 := cl (n - 16) (by omega)
        have l2 := lt (n - 2) (by omega)
        have l7 := lt (n - 7) (by omega)
        have l15 := lt (n - 15) (by omega)
        have l16 := lt (n - 16) (by omega)
        have hnx : (Sh.sched b).getD n 0 = (Sh.ss1 (((Sh.sched b).take n).getD (n - 2) 0) + ((Sh.sched b).take n).getD (n - 7) 0 + Sh.ss0 (((Sh.sched b).take n).getD (n - 15) 0) + ((Sh.sched b).take n).getD (n - 16) 0) % 4294967296 := by
          obtain ⟨m, rfl⟩ : ∃ m, n = 16 + m := ⟨n - 16, by omega⟩
          have h1 := Sh.extend_next b m (by omega)
          have h2 := Sh.extend_take 48 (Sh.words b 16) m (by omega)
          rw [Sh.words_length] at h2
          rw [h1, Sh.sched, h2, Sh.nextW, Sh.extend_length, Sh.words_length]
        have htk : (Sh.sched b).take (n + 1) = (Sh.sched b).take n ++ [(Sh.sched b).getD n 0] := by
          have hh : n < (Sh.sched b).length := by rw [Sh.sched_length]; exact hlt
          rw [List.take_add_one, List.getElem?_eq_getElem hh, List.getD_eq_getElem?_getD, List.getElem?_eq_getElem hh]
          rfl
        have hset := padz_set ((Sh.sched b).take n) ((Sh.sched b).getD n 0) (by omega)
        rw [hl, ← htk] at hset
        generalize ((Sh.sched b).take n).getD (n - 2) 0 = x2 at c2 l2 hnx
        generalize ((Sh.sched b).take n).getD (n - 7) 0 = x7 at c7 l7 hnx
        generalize ((Sh.sched b).take n).getD (n - 15) 0 = x15 at c15 l15 hnx
        generalize ((Sh.sched b).take n).getD (n - 16) 0 = x16 at c16 l16 hnx
        have k1 : ∀ X, Calls Try.prog 93 #[.int .u32 (x2 : Int), .int .i64 17, .int .i64 19, .int .i64 10] X fun e w' => e = .returned (.int .u32 (Sh.ss1 x2 : Nat)) ∧ ∃ n, w' = X.drewN n := fun X => mixsch_spec x2 17 19 10 l2 (by decide) (by decide) (by decide) (by decide) (by decide) (by decide) X
        have k2 : ∀ X, Calls Try.prog 93 #[.int .u32 (x15 : Int), .int .i64 7, .int .i64 18, .int .i64 3] X fun e w' => e = .returned (.int .u32 (Sh.ss0 x15 : Nat)) ∧ ∃ n, w' = X.drewN n := fun X => mixsch_spec x15 7 18 3 l15 (by decide) (by decide) (by decide) (by decide) (by decide) (by decide) X
        generalize Sh.ss1 x2 = y2 at k1 hnx
        generalize Sh.ss0 x15 = y15 at k2 hnx
        have hv : IntKind.u32.wrap (IntKind.u32.wrap (IntKind.u32.wrap ((y2 : Int) + x7) + y15) + x16) = ((Sh.sched b).getD n 0 : Nat) := by rw [hnx, IntKind.wrap_u32', IntKind.wrap_u32', IntKind.wrap_u32']; omega
        obtain ⟨v, hvv⟩ : ∃ v, (Sh.sched b).getD n 0 = v := ⟨_, rfl⟩
        rw [hvv] at hv hset
        have fg := bg.frozen n
        have lg := bg.lt
        have cn : wr.cell? ⟨g, n, none⟩ = some (.int .u32 0) := by
          rw [bg.cell, arr_get _ _ (by rw [padz_length _ (by omega)]; omega)]
          simp [padz, List.getD_eq_getElem?_getD, hl, List.getElem?_append_right]
          rw [List.getElem?_replicate, if_pos (by omega)]
          rfl
        obtain ⟨p2, hp2⟩ : ∃ p, n - 2 = p := ⟨_, rfl⟩
        have e2 : (n : Int) - 2 = (p2 : Int) := by omega
        have f2 : IntKind.i64.wrap (p2 : Int) = (p2 : Int) := by rw [IntWalk.i64_left, IntWalk.wrap64_in _ (by omega)]
        have m2 : (p2 : Int) < 64 := by omega
        have j2 : (0 : Int) ≤ (p2 : Int) := by omega
        rw [hp2] at c2
        clear hp2
        obtain ⟨p7, hp7⟩ : ∃ p, n - 7 = p := ⟨_, rfl⟩
        have e7 : (n : Int) - 7 = (p7 : Int) := by omega
        have f7 : IntKind.i64.wrap (p7 : Int) = (p7 : Int) := by rw [IntWalk.i64_left, IntWalk.wrap64_in _ (by omega)]
        have m7 : (p7 : Int) < 64 := by omega
        have j7 : (0 : Int) ≤ (p7 : Int) := by omega
        rw [hp7] at c7
        clear hp7
        obtain ⟨p15, hp15⟩ : ∃ p, n - 15 = p := ⟨_, rfl⟩
        have e15 : (n : Int) - 15 = (p15 : Int) := by omega
        have f15 : IntKind.i64.wrap (p15 : Int) = (p15 : Int) := by rw [IntWalk.i64_left, IntWalk.wrap64_in _ (by omega)]
        have m15 : (p15 : Int) < 64 := by omega
        have j15 : (0 : Int) ≤ (p15 : Int) := by omega
        rw [hp15] at c15
        clear hp15
        obtain ⟨p16, hp16⟩ : ∃ p, n - 16 = p := ⟨_, rfl⟩
        have e16 : (n : Int) - 16 = (p16 : Int) := by omega
        have f16 : IntKind.i64.wrap (p16 : Int) = (p16 : Int) := by rw [IntWalk.i64_left, IntWalk.wrap64_in _ (by omega)]
        have m16 : (p16 : Int) < 64 := by omega
        have j16 : (0 : Int) ≤ (p16 : Int) := by omega
        rw [hp16] at c16
        clear hp16
        have HS := Lib.hid (And.intro hset hl)
        have kS : wr.drew.cell? ⟨g, p2, none⟩ = some (.int .u32 (x2 : Int)) ∧ wr.drew.cell? ⟨g, p7, none⟩ = some (.int .u32 (x7 : Int)) ∧ wr.drew.cell? ⟨g, p15, none⟩ = some (.int .u32 (x15 : Int)) ∧ wr.drew.cell? ⟨g, p16, none⟩ = some (.int .u32 (x16 : Int)) := ⟨c2, c7, c15, c16⟩
        clear cl lt hnx htk hset bg hl hvv
        have kT : ∀ (X : World) (u : Value), (X.cell? ⟨g, p2, none⟩ = some (.int .u32 (x2 : Int)) ∧ X.cell? ⟨g, p7, none⟩ = some (.int .u32 (x7 : Int)) ∧ X.cell? ⟨g, p15, none⟩ = some (.int .u32 (x15 : Int)) ∧ X.cell? ⟨g, p16, none⟩ = some (.int .u32 (x16 : Int))) → ((X.setCell ⟨g, n, none⟩ u).cell? ⟨g, p2, none⟩ = some (.int .u32 (x2 : Int)) ∧ (X.setCell ⟨g, n, none⟩ u).cell? ⟨g, p7, none⟩ = some (.int .u32 (x7 : Int)) ∧ (X.setCell ⟨g, n, none⟩ u).cell? ⟨g, p15, none⟩ = some (.int .u32 (x15 : Int)) ∧ (X.setCell ⟨g, n, none⟩ u).cell? ⟨g, p16, none⟩ = some (.int .u32 (x16 : Int))) := fun X u h => ⟨(World.cell?_setCell_other _ _ _ _ (by intro e; injection e with _ e2; omega)).trans h.1, (World.cell?_setCell_other _ _ _ _ (by intro e; injection e with _ e2; omega)).trans h.2.1, (World.cell?_setCell_other _ _ _ _ (by intro e; injection e with _ e2; omega)).trans h.2.2.1, (World.cell?_setCell_other _ _ _ _ (by intro e; injection e with _ e2; omega)).trans h.2.2.2⟩
        go_wp2_with fail
        go_region_held3 (fun w' => w'.cell? ⟨g, p2, none⟩ = some (.int .u32 (x2 : Int)) ∧ w'.cell? ⟨g, p7, none⟩ = some (.int .u32 (x7 : Int)) ∧ w'.cell? ⟨g, p15, none⟩ = some (.int .u32 (x15 : Int)) ∧ w'.cell? ⟨g, p16, none⟩ = some (.int .u32 (x16 : Int)))
          (first
            | with_reducible exact kS
            | exact kS
            | exact kT _ _ kS
            | fail)
          (first
            | (with_reducible refine (k1 _).mono ?_
               rintro e w5 ⟨rfl, n5, rfl⟩)
            | (with_reducible refine (k2 _).mono ?_
               rintro e w6 ⟨rfl, n6, rfl⟩)
            | fail)
        · go_wp2
          go_roundw
          case rel =>
            refine ⟨n + 1, by omega, by go_num, ?_⟩
            have h3 := (h.drewN (1 + n5 + n6)).set_ n (.int .u32 (v : Int))
            rw [arr_set, HS.out.1] at h3
            exact h3
          case measure => simp [intOf]; omega
    · have hn64 : n = 64 := by omega
      have hd : decide ((n : Int) < 64) = false := by simp; omega
      have hfull : padz ((Sh.sched b).take n) = Sh.sched b := by
        rw [hn64, List.take_of_length_le (by rw [Sh.sched_length]; omega)]
        unfold padz
        rw [Sh.sched_length]
        simp
      rw [hfull] at h
      have HSL := Lib.hid (show (arr (Sh.sched b)).size = 64 by rw [arr_size, Sh.sched_length])
      clear hl hfull hn64
      obtain ⟨L, hL⟩ : ∃ L, Sh.sched b = L := ⟨_, rfl⟩
      rw [hL] at h HSL
      have HLb := Lib.hid hL
      clear hL
      go_wp2_with (first
        | (with_reducible refine load_all h.blk rfl 95 _ rfl rfl _ Try.underlying95 ?_ ?_ ?_
           · exact rfl
           · rw [HSL.out]; exact size72)
        | (with_reducible refine store_all h.swap rfl 95 _ _ rfl (arr L) ?_ ?_ ?_ ?_ ?_ ?_
           · exact rfl
           · exact rfl
           · rw [HSL.out]; exact (arr_size (padz [])).symm
           · rw [HSL.out]; exact size72
           · exact arr_one _
           intro w1 h1))
      refine bodyPost_ret (v := .agg (arr L)) (results_cell_row Try.results86 _ _ _ _ _ _ _ rfl h1.blk Try.underlying95 rfl (by rw [HSL.out]; exact size72)) rfl ?_
      exact ⟨by rw [HLb.out], by rw [HLo.out]; exact h1.below⟩
end Go.Proofs.Ytiklfjehhdbhfaa
