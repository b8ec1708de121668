/-
  SignatureDigits: the walk. Conditions: the arguments are small.
-/
import Derived.Test.YtnlpakalcckaiaaGreatSgX
import Derived.Test.YtnlpakalcckaiaaGreatSgN
namespace Go.Proofs.YtnlpakalcckaiaaGreat
set_option linter.unusedVariables false
open Go.RowKit

theorem nint_cell67 {w : World} {base g c : Nat} {d : List Nat} (h : w.ownsRow base 3 1 (.slice (some ⟨g, 0, none⟩) 67 c) 67 (nints d)) (hd : d.length = 67) {k : Nat} (hk : k < 67) : w.cell? ⟨g, k, none⟩ = some (.int .i64 ((d.getD k 0 : Nat) : Int)) := by
  have h3 := h.cells (g := g) rfl
  have := h3 k (.int .i64 ((d.getD k 0 : Nat) : Int)) (by
    unfold nints
    rw [List.getElem?_map, List.getD_eq_getElem?_getD, List.getElem?_eq_getElem (by omega)]
    rfl)
  rw [Addr.add_lit, Nat.zero_add] at this
  exact this
def lessB (d e : List Nat) (k : Nat) : Bool := (List.range k).any fun i => decide (d.getD i 0 < e.getD i 0)
theorem lessB_succ (d e : List Nat) (k : Nat) : lessB d e (k + 1) = (lessB d e k || decide (d.getD k 0 < e.getD k 0)) := by
  unfold lessB
  rw [List.range_succ, List.any_append]
  simp
theorem lessB_iff (d e : List Nat) (k : Nat) : lessB d e k = true ↔ ∃ i, i < k ∧ d.getD i 0 < e.getD i 0 := by
  unfold lessB
  simp only [List.any_eq_true, List.mem_range, decide_eq_true_eq]
theorem less_more (d e : List Nat) (hd : d.length = 67) (he : e.length = 67) (h1 : (∀ k (a : k < d.length) (b : k < e.length), e[k]'b ≤ d[k]'a) → d = e) (h2 : (∀ k (a : k < e.length) (b : k < d.length), d[k]'b ≤ e[k]'a) → e = d) : lessB d e 67 = lessB e d 67 := by
  have hg : ∀ (l : List Nat) k (h : k < l.length), l.getD k 0 = l[k] := fun l k h => by rw [List.getD_eq_getElem?_getD, List.getElem?_eq_getElem h]; rfl
  refine Bool.eq_iff_iff.2 ?_
  rw [lessB_iff, lessB_iff]
  constructor
  · rintro ⟨i, hi, hlt⟩
    refine Classical.byContradiction fun hn => ?_
    have := h2 (fun k a b => by
      rw [← hg d k b, ← hg e k a]
      refine Nat.not_lt.1 fun hh => hn ⟨k, by omega, hh⟩)
    rw [this] at hlt
    omega
  · rintro ⟨i, hi, hlt⟩
    refine Classical.byContradiction fun hn => ?_
    have := h1 (fun k a b => by
      rw [← hg d k a, ← hg e k b]
      refine Nat.not_lt.1 fun hh => hn ⟨k, by omega, hh⟩)
    rw [this] at hlt
    omega
set_option maxRecDepth 20000 in
set_option maxHeartbeats 4000000 in
theorem sigDigits_walk (a b : Sg.Str) (w : World) (ha : a.length ≤ 1073741824) (hb : b.length ≤ 1073741824) :
    Calls Tryz.prog 3 #[.string ⟨a.toArray⟩, .string ⟨b.toArray⟩] w fun e w' => e = .returned (.bool true) ∧ Below w.heap.size w w' := by
  have za := bytes_size a
  have zb := bytes_size b
  go_enter Tryz.func3, Tryz.ntmps3
  go_wp2_with fail
  refine (awake_sg _).mono ?_
  rintro e w1 ⟨rfl, b1⟩
  by_cases hl : (a.length : Int) + (b.length : Int) ≤ 500
  · have hl' : ¬ ((500 : Int) < (a.length : Int) + (b.length : Int)) := by omega
    have h1 := (St.nil w).under b1
    have kx := fun W => digits_spec a W ha
    have ky := fun W => digits_spec b W hb
    have kr := fun W => rdigits_spec a W ha
    have kq := fun (A B : Option Addr) (p q : Nat) (W : World) => equal_nints A B (Sg.dgs a) (Sg.dgs a) p q W
    have hda := Sg.dgs_len a
    have hdb := Sg.dgs_len b
    have hle := Sg.dgs_le a
    have hfin := less_more (Sg.dgs a) (Sg.dgs b) hda hdb (Sg.dgs_cover a b) (Sg.dgs_cover b a)
    simp only [hda, decide_true] at kq
    generalize Sg.dgs a = d at *
    generalize Sg.dgs b = e at *
    clear b1
    go_wp2_with fail
    refine (kx _).mono ?_
    rintro _ w2 ⟨A1, n1, rfl, p1, p2, t1⟩
    have h2 := h1.join t1
    go_wp2_with fail
    refine (ky _).mono ?_
    rintro _ w3 ⟨A2, n2, rfl, p3, p4, t2⟩
    have h3 := h2.join t2
    go_wp2_with fail
    refine (kr _).mono ?_
    rintro _ w4 ⟨A3, n3, rfl, p5, p6, t3⟩
    have h4 := h3.join t3
    obtain ⟨g1, rfl, _⟩ := own_block t1.own (by decide)
    obtain ⟨g2, rfl, _⟩ := own_block t2.own (by decide)
    have h4 : St w.heap.size w w4 [ownR 3 1 (.slice A3 67 n3) 67 (nints d), ownR 3 1 (.slice (some ⟨g2, 0, none⟩) 67 n2) 67 (nints e), ownR 3 1 (.slice (some ⟨g1, 0, none⟩) 67 n1) 67 (nints d)] := h4
    clear h1 h2 h3 t1 t2 t3 kx ky kr
    go_wp2_with fail
    refine (kq (some ⟨g1, 0, none⟩) A3 n1 n3 _ (Rd.of_own h4.tail.tail.own) (Rd.of_own h4.own) (by decide) (by decide)).mono ?_
    rintro _ w5 ⟨rfl, n, rfl⟩
    have h5 := (h4.pick [2, 1] (by decide) (by simp)).drewN n
    have h5 : St w.heap.size w (w4.drewN n) [ownR 3 1 (.slice (some ⟨g1, 0, none⟩) 67 n1) 67 (nints d), ownR 3 1 (.slice (some ⟨g2, 0, none⟩) 67 n2) 67 (nints e)] := h5
    have H5 := Lib.hid h5
    clear h4 h5 kq
    go_wp2_with fail
    go_loopw [7, 8, 39] (fun s m i wr => ∃ k : Nat, k ≤ 67 ∧ i = .int .i64 k ∧ s = .bool (lessB d e k) ∧ m = .bool (lessB e d k) ∧ St w.heap.size w wr [ownR 3 1 (.slice (some ⟨g1, 0, none⟩) 67 n1) 67 (nints d), ownR 3 1 (.slice (some ⟨g2, 0, none⟩) 67 n2) 67 (nints e)]) (fun _ _ i _ => 67 - (intOf i).toNat)
    case atStart => exact ⟨0, by decide, rfl, rfl, rfl, H5.out⟩
    case round =>
      obtain ⟨k, hk, rfl, rfl, rfl, h⟩ := hrel
      by_cases hlt : k < 67
      · have cx := nint_cell67 h.own hda hlt
        have cy := nint_cell67 h.tail.own hdb hlt
        have hx15 := Sg.getD_le hle k
        have hs1 := lessB_succ d e k
        have hs2 := lessB_succ e d k
        generalize lessB d e k = p at hs1 ⊢
        generalize lessB e d k = q at hs2 ⊢
        generalize d.getD k 0 = x at *
        generalize e.getD k 0 = y at *
        have hxy : decide ((x : Int) < (y : Int)) = decide (x < y) := decide_eq_decide.2 (by omega)
        have hyx : decide ((y : Int) < (x : Int)) = decide (y < x) := decide_eq_decide.2 (by omega)
        have HS := Lib.hid (And.intro hs1 (And.intro hs2 (And.intro hxy (And.intro hyx h))))
        have g1' : decide ((k : Int) < 67) = true := by simp; omega
        have x0 : decide ((x : Int) < 0) = false := by simp
        have x1 : decide ((x : Int) > 15) = false := decide_eq_false (by omega)
        have x2 : decide ((15 : Int) < (x : Int)) = false := decide_eq_false (by omega)
        have i0 : (0 : Int) ≤ (k : Int) := by omega
        have i1 : (k : Int) < 67 := by omega
        have i2 : ¬ ((67 : Int) ≤ (k : Int)) := by omega
        clear hs1 hs2 hxy hyx h hle hfin hda hdb
        cases p <;> cases q
        all_goals
          go_wp2
          go_quiet (fail)
          go_wp2
          go_roundw
          case rel => exact ⟨k + 1, by omega, by go_num, by rw [HS.out.1, ← HS.out.2.2.1]; rfl, by rw [HS.out.2.1, ← HS.out.2.2.2.1]; rfl, HS.out.2.2.2.2.drewN _⟩
          case measure => simp [intOf]; omega
      · obtain rfl : k = 67 := by omega
        have hb2 := h.below
        rw [hfin]
        clear h hle hfin hda hdb
        cases lessB e d 67
        all_goals
          go_wp2
          go_ret
          exact ⟨rfl, hb2⟩
  · have hl' : (500 : Int) < (a.length : Int) + (b.length : Int) := by omega
    go_wp2
    go_ret
    exact ⟨rfl, b1⟩
end Go.Proofs.YtnlpakalcckaiaaGreat
