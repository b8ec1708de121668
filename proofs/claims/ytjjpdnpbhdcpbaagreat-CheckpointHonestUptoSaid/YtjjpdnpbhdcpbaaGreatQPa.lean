/- Lemmas and contracts on what the walks need, several small texts in one. Conditions: as each theorem states. -/
import Derived.Test.YtjjpdnpbhdcpbaaGreatQBase
import Derived.Test.YtjjpdnpbhdcpbaaGreatQMkA
import Derived.Test.YtjjpdnpbhdcpbaaGreatQCdA
import Derived.Test.YtjjpdnpbhdcpbaaGreatQShaB
import Derived.Test.YtjjpdnpbhdcpbaaGreatQMkB
import Derived.Test.YtjjpdnpbhdcpbaaGreatLayR
import Derived.Lib.OthersKept
import Derived.Lib.FrozenHead2
import Derived.Test.YtjjpdnpbhdcpbaaGreatRows
import Derived.ProofKit
import Derived.OpenShut
import Derived.JoinedCond
import Derived.ShutString
import Derived.ChangeOld
import Derived.Deep.Strs
import Derived.Maps.OwnSet
namespace Go.Proofs.YtjjpdnpbhdcpbaaGreat
theorem bk3 {w : World} {g : Nat} {t : TypeId} {cs : Array Value} (h : Blk w g t cs) : w.cell? ⟨g, 0, none⟩ = cs[0]? ∧ w.frozen? ⟨g, 0, none⟩ = false ∧ w.cell? ⟨g, 1, none⟩ = cs[1]? ∧ w.frozen? ⟨g, 1, none⟩ = false ∧ w.cell? ⟨g, 2, none⟩ = cs[2]? ∧ w.frozen? ⟨g, 2, none⟩ = false := ⟨h.cell 0, h.frozen 0, h.cell 1, h.frozen 1, h.cell 2, h.frozen 2⟩
theorem bk7 {w : World} {g : Nat} {t : TypeId} {cs : Array Value} (h : Blk w g t cs) : w.cell? ⟨g, 0, none⟩ = cs[0]? ∧ w.frozen? ⟨g, 0, none⟩ = false ∧ w.cell? ⟨g, 1, none⟩ = cs[1]? ∧ w.frozen? ⟨g, 1, none⟩ = false ∧ w.cell? ⟨g, 2, none⟩ = cs[2]? ∧ w.frozen? ⟨g, 2, none⟩ = false ∧ w.cell? ⟨g, 3, none⟩ = cs[3]? ∧ w.frozen? ⟨g, 3, none⟩ = false ∧ w.cell? ⟨g, 4, none⟩ = cs[4]? ∧ w.frozen? ⟨g, 4, none⟩ = false ∧ w.cell? ⟨g, 5, none⟩ = cs[5]? ∧ w.frozen? ⟨g, 5, none⟩ = false ∧ w.cell? ⟨g, 6, none⟩ = cs[6]? ∧ w.frozen? ⟨g, 6, none⟩ = false := ⟨h.cell 0, h.frozen 0, h.cell 1, h.frozen 1, h.cell 2, h.frozen 2, h.cell 3, h.frozen 3, h.cell 4, h.frozen 4, h.cell 5, h.frozen 5, h.cell 6, h.frozen 6⟩
end Go.Proofs.YtjjpdnpbhdcpbaaGreat
namespace Go.Proofs.YtjjpdnpbhdcpbaaGreat.Sg
set_option linter.unusedVariables false
abbrev Str := List UInt8
def nums (l : List Nat) : Str := (l.map Cd.uns).flatten
theorem nums_take (l : List Nat) (k : Nat) (h : k < l.length) : nums (l.take (k + 1)) = nums (l.take k) ++ Cd.uns l[k] := by
 unfold nums
 rw [List.take_succ_eq_append_getElem h, List.map_append, List.flatten_append]
 simp
theorem nums_len (l : List Nat) : (nums l).length ≤ 10 * l.length := by
 induction l with
 | nil => simp [nums]
 | cons n l ih =>
   have := Cd.uns_len n
   have e : nums (n :: l) = Cd.uns n ++ nums l := by simp [nums]
   rw [e, List.length_append, List.length_cons]
   omega
def stp (i c p : Nat) (x : Str) : Str := Sh.sha (3 :: (nums [i, c, p] ++ x))
theorem stp_len (i c p : Nat) (x : Str) : (stp i c p x).length = 32 := Sh.sha_length _
def wlk (i c f : Nat) : Nat → Str → Str
 | 0, x => x
 | n + 1, x => stp i c (f + n) (wlk i c f n x)
theorem wlk_succ (i c f n : Nat) (x : Str) : wlk i c f (n + 1) x = stp i c (f + n) (wlk i c f n x) := rfl
theorem wlk_add (i c f m : Nat) (x : Str) : ∀ n, wlk i c f (m + n) x = wlk i c (f + m) n (wlk i c f m x)
 | 0 => rfl
 | n + 1 => by
   rw [← Nat.add_assoc, wlk_succ, wlk_succ, wlk_add i c f m x n, Nat.add_assoc]
theorem wlk_len (i c f : Nat) : ∀ (n : Nat) (x : Str), x.length = 32 → (wlk i c f n x).length = 32
 | 0, x, h => h
 | n + 1, x, h => stp_len _ _ _ _
theorem wlk_le (i c f : Nat) (B : Nat) (hB : 32 ≤ B) : ∀ (n : Nat) (x : Str), x.length ≤ B → (wlk i c f n x).length ≤ B
 | 0, x, h => h
 | n + 1, x, h => by rw [wlk_succ, stp_len]; exact hB
def sec (seed : Str) (i c : Nat) : Str := Sh.sha (2 :: (seed ++ nums [i, c]))
theorem sec_len (seed : Str) (i c : Nat) : (sec seed i c).length = 32 := Sh.sha_length _
def tops (seed : Str) (i k : Nat) : Str := ((List.range k).map fun c => wlk i c 0 15 (sec seed i c)).flatten
theorem tops_succ (seed : Str) (i k : Nat) : tops seed i (k + 1) = tops seed i k ++ wlk i k 0 15 (sec seed i k) := by
 unfold tops
 rw [List.range_succ, List.map_append, List.flatten_append]
 simp
theorem tops_len (seed : Str) (i : Nat) : ∀ k, (tops seed i k).length = 32 * k
 | 0 => rfl
 | k + 1 => by rw [tops_succ, List.length_append, tops_len seed i k, wlk_len _ _ _ _ _ (sec_len _ _ _)]; omega
def otl (seed : Str) (i : Nat) : Str := Mk.leaf (tops seed i 67)
theorem otl_len (seed : Str) (i : Nat) : (otl seed i).length = 32 := Sh.sha_length _
def lvs (seed : Str) (n : Nat) : List Str := (List.range n).map (otl seed)
theorem lvs_len (seed : Str) (n : Nat) : (lvs seed n).length = n := by simp [lvs]
theorem lvs_succ (seed : Str) (n : Nat) : lvs seed (n + 1) = lvs seed n ++ [otl seed n] := by simp [lvs, List.range_succ]
theorem lvs_dig (seed : Str) (n : Nat) : Mk.AllD (lvs seed n) := fun x hx => by
 obtain ⟨i, _, rfl⟩ := List.mem_map.1 hx
 exact otl_len _ _
def dl (s : Str) : List Nat := s.flatMap fun b => [b.toNat / 16, b.toNat % 16]
theorem dl_len (s : Str) : (dl s).length = 2 * s.length := by
 induction s with
 | nil => rfl
 | cons x s ih =>
   have : dl (x :: s) = [x.toNat / 16, x.toNat % 16] ++ dl s := rfl
   rw [this, List.length_append, ih, List.length_cons]
   simp
   omega
theorem dl_le (s : Str) : ∀ d ∈ dl s, d ≤ 15 := fun d hd => by
 obtain ⟨b, _, hb⟩ := List.mem_flatMap.1 hd
 have := b.toNat_lt
 simp at hb
 omega
theorem dl_hex (s : Str) : Sh.hex s = (dl s).map Sh.hexD := by
 induction s with
 | nil => rfl
 | cons x s ih =>
   have e1 : Sh.hex (x :: s) = [Sh.hexD (x.toNat / 16), Sh.hexD (x.toNat % 16)] ++ Sh.hex s := rfl
   have e2 : dl (x :: s) = [x.toNat / 16, x.toNat % 16] ++ dl s := rfl
   rw [e1, e2, ih, List.map_append]
   rfl
def lack (l : List Nat) : Nat := (l.map fun d => 15 - d).sum
theorem lack_append (a b : List Nat) : lack (a ++ b) = lack a + lack b := by simp [lack]
theorem lack_take (l : List Nat) (k : Nat) (h : k < l.length) : lack (l.take (k + 1)) = lack (l.take k) + (15 - l[k]) := by
 rw [List.take_succ_eq_append_getElem h, lack_append]
 simp [lack]
theorem lack_le (l : List Nat) : lack l ≤ 15 * l.length := by
 induction l with
 | nil => simp [lack]
 | cons d l ih =>
   have : lack (d :: l) = (15 - d) + lack l := by simp [lack]
   rw [this, List.length_cons]
   omega
def tail3 (n : Nat) : List Nat := [n / 256, n / 16 % 16, n % 16]
def dgs (msg : Str) : List Nat := dl (Sh.sha msg) ++ tail3 (lack (dl (Sh.sha msg)))
theorem dl_sha (msg : Str) : (dl (Sh.sha msg)).length = 64 := by rw [dl_len, Sh.sha_length]
theorem dgs_len (msg : Str) : (dgs msg).length = 67 := by
 unfold dgs tail3
 rw [List.length_append, dl_sha]
 rfl
theorem dgs_le (msg : Str) : ∀ d ∈ dgs msg, d ≤ 15 := fun d hd => by
 unfold dgs tail3 at hd
 have h1 := lack_le (dl (Sh.sha msg))
 rw [dl_sha] at h1
 rcases List.mem_append.1 hd with h | h
 ·exact dl_le _ d h
 ·simp at h
  omega
def chn (seed : Str) (i : Nat) (d : List Nat) (k : Nat) : List Str := (List.range k).map fun c => wlk i c 0 (d.getD c 0) (sec seed i c)
theorem chn_len (seed : Str) (i : Nat) (d : List Nat) (k : Nat) : (chn seed i d k).length = k := by simp [chn]
theorem chn_dig (seed : Str) (i : Nat) (d : List Nat) (k : Nat) : Mk.AllD (chn seed i d k) := fun x hx => by
 obtain ⟨c, _, rfl⟩ := List.mem_map.1 hx
 exact wlk_len _ _ _ _ _ (sec_len _ _ _)
def ends (i : Nat) (d : List Nat) (L : List Str) (k : Nat) : Str := ((List.range k).map fun c => wlk i c (d.getD c 0) (15 - d.getD c 0) (L.getD c [])).flatten
theorem ends_succ (i : Nat) (d : List Nat) (L : List Str) (k : Nat) : ends i d L (k + 1) = ends i d L k ++ wlk i k (d.getD k 0) (15 - d.getD k 0) (L.getD k []) := by
 unfold ends
 rw [List.range_succ, List.map_append, List.flatten_append]
 simp
theorem getD_le {d : List Nat} (h : ∀ x ∈ d, x ≤ 15) (c : Nat) : d.getD c 0 ≤ 15 := by
 rw [List.getD_eq_getElem?_getD]
 by_cases hc : c < d.length
 ·rw [List.getElem?_eq_getElem hc]; exact h _ (List.getElem_mem hc)
 ·rw [List.getElem?_eq_none (by omega)]; simp
theorem ends_chn (seed : Str) (i : Nat) (d : List Nat) (hd : ∀ x ∈ d, x ≤ 15) (n : Nat) : ∀ k, k ≤ n → ends i d (chn seed i d n) k = tops seed i k
 | 0, _ => rfl
 | k + 1, hk => by
   rw [ends_succ, tops_succ, ends_chn seed i d hd n k (by omega)]
   have e : (chn seed i d n).getD k [] = wlk i k 0 (d.getD k 0) (sec seed i k) := by
    rw [List.getD_eq_getElem?_getD]
    simp [chn, show k < n by omega]
   have h15 := getD_le hd k
   rw [e]
   congr 1
   have := wlk_add i k 0 (d.getD k 0) (sec seed i k) (15 - d.getD k 0)
   rw [Nat.zero_add, show d.getD k 0 + (15 - d.getD k 0) = 15 by omega] at this
   exact this.symm
end Go.Proofs.YtjjpdnpbhdcpbaaGreat.Sg
namespace Go.Proofs.YtjjpdnpbhdcpbaaGreat
set_option linter.unusedVariables false
open Go.RowKit
theorem sl_some {w : World} {base : Nat} {e : TypeId} {size n l c : Nat} {A : Option Addr} {xs : List Value} (h : w.ownsRow base e size (.slice A l c) n xs) (hn : 0 < n) : ∃ g, A = some ⟨g, 0, none⟩ ∧ g < w.heap.size := by
 rcases h.2 with ⟨h2, h3⟩ | ⟨g, cap, cur, hv, _, hg, _⟩
 ·omega
 ·injection hv with hv _ _
  exact ⟨g, hv, (Array.getElem?_eq_some_iff.1 hg).1⟩
def nints (l : List Nat) : List Value := l.map fun (n : Nat) => Value.int .i64 (n : Int)
theorem nints_length (l : List Nat) : (nints l).length = l.length := by simp [nints]
theorem Rd.nint {w : World} {A : Option Addr} {L : List Nat} (h : Rd w A (nints L)) {k : Nat} (hk : k < L.length) : ∃ b off, A = some ⟨b, off, none⟩ ∧ w.cell? ⟨b, off + k, none⟩ = some (.int .i64 (L[k] : Int)) := by
 rcases h with h | ⟨b, off, hA, hc⟩
 ·have := congrArg List.length h
  rw [nints_length, List.length_nil] at this
  omega
 ·exact ⟨b, off, hA, by have := hc k (by rw [nints_length]; exact hk); simpa [nints] using this⟩
theorem sg_cat (a b : Sg.Str) (h : a.length + b.length ≤ 1099511627776) : ¬ (IntKind.i64.max < (a.length : Int) + (b.length : Int)) ∧ ¬ (9223372036854775807 < a.length + b.length) := by
 constructor
 ·show ¬ ((9223372036854775807 : Int) < _); omega
 ·omega
set_option maxRecDepth 20000 in
set_option maxHeartbeats 1000000 in
theorem numbers_spec (A : Option Addr) (L : List Nat) (c : Nat) (w : World) (hR : Rd w A (nints L)) (hL : L.length ≤ 1073741824) (hb : ∀ k (h : k < L.length), L[k] < 9223372036854775808) :
 Calls Tryz.prog 117 #[.slice A L.length c] w fun e w' => e = .returned (.string ⟨(Sg.nums L).toArray⟩) ∧ Below w.heap.size w w' := by
 have hnl := fun k => Sg.nums_len (L.take k)
 have HR := Lib.hid (And.intro hR hb)
 clear hR hb
 go_enter Tryz.func117, Tryz.ntmps117
 go_wp2
 go_loopw [3, 10] (fun s i wr => ∃ k : Nat, k ≤ L.length ∧ i = .int .i64 k ∧ s = .string ⟨(Sg.nums (L.take k)).toArray⟩ ∧ Below w.heap.size w wr) (fun _ i _ => L.length - (intOf i).toNat)
 case atStart => exact ⟨0, Nat.zero_le _, rfl, rfl, Below.refl _ _⟩
 case round =>
  obtain ⟨k, hk, rfl, rfl, hbe⟩ := hrel
  by_cases hlt : k < L.length
  ·obtain ⟨b, off, hA, hc⟩ := (HR.out.1.below hbe).nint hlt
   subst hA
   have ku := fun W => uint_pos L[k] (HR.out.2 k hlt) W
   have hnt := Sg.nums_take L k hlt
   have hl1 := hnl k
   have hl2 := Cd.uns_len L[k]
   rw [List.length_take] at hl1
   generalize Sg.nums (L.take k) = S at hnt hl1
   generalize L[k] = n at ku hc hnt hl2
   generalize Cd.uns n = u at ku hnt hl2
   have hba := bytes_append S u
   obtain ⟨f1, f2⟩ := sg_cat S u (by omega)
   have HN := Lib.hid hnt
   clear hnt hnl
   have i0 : (0 : Int) ≤ (k : Int) := by omega
   have i1 : (k : Int) < (L.length : Int) := by omega
   go_wp2_with fail
   refine (ku _).mono ?_
   rintro e w5 ⟨rfl, b5⟩
   go_wp2
   go_roundw
   case rel => exact ⟨k + 1, by omega, by go_num, by rw [HN.out], hbe.trans (b5.mono hbe.size)⟩
   case measure => simp [intOf]; omega
  ·obtain rfl : k = L.length := by omega
   rw [List.take_length]
   clear hnl
   go_wp2
   go_ret
   exact ⟨rfl, hbe⟩
theorem rd_ints2 (W : World) (a b : Nat) : Rd (W.alloc (.cells #[.int .i64 (a : Int), .int .i64 (b : Int)] 3)) (some ⟨W.heap.size, 0, none⟩) (nints [a, b]) := rd_new W _ _
theorem rd_ints3 (W : World) (a b c : Nat) : Rd (W.alloc (.cells #[.int .i64 (a : Int), .int .i64 (b : Int), .int .i64 (c : Int)] 3)) (some ⟨W.heap.size, 0, none⟩) (nints [a, b, c]) := rd_new W _ _
set_option maxRecDepth 20000 in
set_option maxHeartbeats 1000000 in
theorem secret_spec (seed : Sg.Str) (i c : Nat) (w : World) (hs : seed.length ≤ 1073741824) (hi : i < 9223372036854775808) (hc : c < 9223372036854775808) :
 Calls Tryz.prog 98 #[.string ⟨seed.toArray⟩, .int .i64 i, .int .i64 c] w fun e w' => e = .returned (.string ⟨(Sg.sec seed i c).toArray⟩) ∧ Below w.heap.size w w' := by
 have b0 : Below w.heap.size w (w.alloc (.cells #[.int .i64 (i : Int), .int .i64 (c : Int)] 3)) := (Below.refl _ w).alloc (Nat.le_refl _) _
 have kn := numbers_spec _ [i, c] 2 _ (rd_ints2 w i c) (by simp) (fun k h => by
  match k, h with
  | 0, _ => exact hi
  | 1, _ => exact hc)
 have hl := Sg.nums_len [i, c]
 have hm : Sg.sec seed i c = Sh.sha (2 :: (seed ++ Sg.nums [i, c])) := rfl
 rw [hm]
 clear hm
 generalize Sg.nums [i, c] = u at kn hl ⊢
 simp only [List.length_cons, List.length_nil] at hl
 have ha1 := bytes_append [2] seed
 have ha2 := bytes_append ([2] ++ seed) u
 rw [show [2] ++ seed ++ u = 2 :: (seed ++ u) from rfl] at ha2
 obtain ⟨f1, f2⟩ := sg_cat [2] seed (by simp; omega)
 obtain ⟨f3, f4⟩ := sg_cat ([2] ++ seed) u (by simp; omega)
 have ks := fun W => sum_below (2 :: (seed ++ u)) (by simp; omega) W
 generalize 2 :: (seed ++ u) = D at ha2 ks ⊢
 generalize [2] ++ seed = E at ha1 ha2 f3 f4
 go_enter Tryz.func98, Tryz.ntmps98
 go_wp2_with fail
 refine kn.mono ?_
 rintro e w1 ⟨rfl, b1⟩
 go_wp2_with fail
 refine (ks _).mono ?_
 rintro e w2 ⟨rfl, b2⟩
 go_wp2
 go_ret
 have b01 := b0.trans (b1.mono b0.size)
 exact ⟨rfl, b01.trans (b2.mono b01.size)⟩
set_option maxRecDepth 20000 in
set_option maxHeartbeats 1000000 in
theorem walk_spec (x : Sg.Str) (i c f n : Nat) (w : World) (hx : x.length ≤ 1073741824) (hi : i < 9223372036854775808) (hc : c < 9223372036854775808) (hn : f + n ≤ 1000) :
 Calls Tryz.prog 97 #[.string ⟨x.toArray⟩, .int .i64 i, .int .i64 c, .int .i64 f, .int .i64 ((f : Int) + n)] w fun e w' => e = .returned (.string ⟨(Sg.wlk i c f n x).toArray⟩) ∧ Below w.heap.size w w' := by
 have hle := fun k => Sg.wlk_le i c f 1073741824 (by decide) k x hx
 have e0 : (f : Int) + (n : Int) - (f : Int) = (n : Int) := by omega
 go_enter Tryz.func97, Tryz.ntmps97
 go_wp2
 go_loopw [0, 15] (fun s j wr => ∃ k : Nat, k ≤ n ∧ j = .int .i64 k ∧ s = .string ⟨(Sg.wlk i c f k x).toArray⟩ ∧ Below w.heap.size w wr) (fun _ j _ => n - (intOf j).toNat)
 case atStart => exact ⟨0, Nat.zero_le _, rfl, rfl, Below.refl _ _⟩
 case round =>
  obtain ⟨k, hk, rfl, rfl, hbe⟩ := hrel
  by_cases hlt : k < n
  ·have kn := fun W => numbers_spec _ [i, c, f + k] 3 _ (rd_ints3 W i c (f + k)) (by simp) (fun k' h => by
    match k', h with
    | 0, _ => exact hi
    | 1, _ => exact hc
    | 2, _ => show f + k < _; omega)
   have hl := Sg.nums_len [i, c, f + k]
   have hm := Sg.wlk_succ i c f k x
   unfold Sg.stp at hm
   have hlk := hle k
   generalize Sg.wlk i c f k x = y at hm hlk
   generalize Sg.nums [i, c, f + k] = u at kn hl hm
   simp only [List.length_cons, List.length_nil] at hl
   have ecast : (((f + k : Nat)) : Int) = (f : Int) + (k : Int) := by omega
   rw [ecast] at kn
   have ha1 := bytes_append [3] u
   have ha2 := bytes_append ([3] ++ u) y
   rw [show [3] ++ u ++ y = 3 :: (u ++ y) from rfl] at ha2
   obtain ⟨f1, f2⟩ := sg_cat [3] u (by simp; omega)
   obtain ⟨f3, f4⟩ := sg_cat ([3] ++ u) y (by simp; omega)
   have ks := fun W => sum_below (3 :: (u ++ y)) (by simp; omega) W
   generalize 3 :: (u ++ y) = D at ha2 ks hm
   generalize [3] ++ u = E at ha1 ha2 f3 f4
   have HM := Lib.hid hm
   have b0 := hbe.alloc hbe.size (.cells #[.int .i64 (i : Int), .int .i64 (c : Int), .int .i64 ((f : Int) + (k : Int))] 3)
   clear hm hle ecast e0
   go_wp2_with fail
   refine (kn _).mono ?_
   rintro e w1 ⟨rfl, b1⟩
   go_wp2_with fail
   refine (ks _).mono ?_
   rintro e w2 ⟨rfl, b2⟩
   have b01 := b0.trans (b1.mono b0.size)
   go_wp2
   go_roundw
   case rel => exact ⟨k + 1, by omega, by go_num, by rw [HM.out], b01.trans (b2.mono b01.size)⟩
   case measure => simp [intOf]; omega
  ·obtain rfl : k = n := by omega
   clear hle e0
   go_wp2
   go_ret
   exact ⟨rfl, hbe⟩
end Go.Proofs.YtjjpdnpbhdcpbaaGreat
namespace Go.Proofs.YtjjpdnpbhdcpbaaGreat
set_option linter.unusedVariables false
open Go.RowKit Go.Shelf
def iterR (k : Nat) (s : ByteArray) (pos : Nat) : Res where
 P w F := w.heap[k]? = some (.stringIter s pos) ∧ F = (fun i => i = k)
 lt h i hi := by obtain ⟨hb, rfl⟩ := h; subst hi; exact (Array.getElem?_eq_some_iff.1 hb).1
 mod h hm hG := by obtain ⟨hb, rfl⟩ := h; exact ⟨(hm.block k (Array.getElem?_eq_some_iff.1 hb).1 (hG _ rfl)).trans hb, rfl⟩
theorem St.iter {lo : Nat} {w0 w : World} {Rs : List Res} (h : St lo w0 w Rs) (s : ByteArray) : St lo w0 (w.iter s 0) (iterR w.heap.size s 0 :: Rs) :=
 h.new ((Below.refl _ w).alloc (Nat.le_refl _) _) ⟨World.iter_heap w s 0, rfl⟩ (fun k hk => by subst hk; exact Nat.le_refl _)
theorem St.at_iter {lo : Nat} {w0 w : World} {Rs : List Res} {k pos : Nat} {s : ByteArray} (h : St lo w0 w (iterR k s pos :: Rs)) : w.heap[k]? = some (.stringIter s pos) := by
 obtain ⟨_, _, F, V, h1, _⟩ := h
 exact h1.1
theorem St.step_iter {lo : Nat} {w0 w : World} {Rs : List Res} {k pos : Nat} {s : ByteArray} (h : St lo w0 w (iterR k s pos :: Rs)) (pos' : Nat) : St lo w0 (w.iterAt k s pos') (iterR k s pos' :: Rs) := by
 obtain ⟨F, h1, h2, h3⟩ := h.open
 obtain ⟨hb, rfl⟩ := h1
 exact h3 (F' := fun i => i = k) _ ⟨rfl, rfl, rfl, by rw [Lib.iterAt_size]; exact Nat.le_refl _, fun i hi hn => Lib.iterAt_other w k i s pos' hn⟩ ⟨Lib.iterAt_heap w k s pos pos' hb, rfl⟩ (fun i hi => .inl hi)
theorem info_int : (Tryz.prog.info? 3).map (fun i => (i.zero, i.size, i.bytes)) = some (some (.int .i64 0), 1, 8) := by kernel_rfl
theorem idx_f : Tryz.laysIndexRune_ren.f 152 = 178 := by kernel_rfl
theorem idx_hex (n : Nat) (h : n < 16) : Lib.indexByte [48, 49, 50, 51, 52, 53, 54, 55, 56, 57, 97, 98, 99, 100, 101, 102] (((Sh.hexD n).toNat : Int).toNat.toUInt8) = (n : Int) ∧ (Sh.hexD n).toNat < 128 := by
 have : ∀ m : Fin 16, Lib.indexByte [48, 49, 50, 51, 52, 53, 54, 55, 56, 57, 97, 98, 99, 100, 101, 102] (((Sh.hexD m.val).toNat : Int).toNat.toUInt8) = (m.val : Int) ∧ (Sh.hexD m.val).toNat < 128 := by decide +kernel
 exact this ⟨n, h⟩
theorem index_spec (n : Nat) (h : n < 16) (W : World) : Calls Tryz.prog 178 #[.string ⟨#[48, 49, 50, 51, 52, 53, 54, 55, 56, 57, 97, 98, 99, 100, 101, 102]⟩, .int .i32 ((Sh.hexD n).toNat : Int)] W fun e w' => e = .returned (.int .i64 (n : Int)) ∧ w' = W := by
 obtain ⟨h1, h2⟩ := idx_hex n h
 have k := Any.strings_IndexRune_ascii Tryz.laysIndexRune ⟨#[48, 49, 50, 51, 52, 53, 54, 55, 56, 57, 97, 98, 99, 100, 101, 102]⟩ ((Sh.hexD n).toNat : Int) W (by omega) (by omega)
 rw [idx_f] at k
 refine k.mono fun e w' ⟨he, hw⟩ => ⟨?_, hw⟩
 rw [he]
 exact congrArg (fun v => Ending.returned (Value.int .i64 v)) h1
theorem shr8 (n : Nat) (h : n ≤ 100000) : bits .and .i64 (n : Int) 15 = ((n % 16 : Nat) : Int) := by
 have h127 : (BitVec.ofInt 64 15).toNat = 2 ^ 4 - 1 := by decide
 have key : (BitVec.ofInt 64 (n : Int) &&& BitVec.ofInt 64 15).toNat = ((n : Int) % ((2 ^ 64 : Nat) : Int)).toNat % 2 ^ 4 := by
  rw [BitVec.toNat_and, BitVec.toNat_ofInt, h127, Nat.and_two_pow_sub_one_eq_mod]
 show IntKind.i64.wrap ((BitVec.ofInt 64 (n : Int) &&& BitVec.ofInt 64 15).toNat : Nat) = _
 rw [key, IntKind.wrap_i64]
 omega
set_option maxRecDepth 20000 in
set_option maxHeartbeats 4000000 in
theorem digits_spec (msg : Sg.Str) (w : World) (hm : msg.length ≤ 1073741824) :
 Calls Tryz.prog 148 #[.string ⟨msg.toArray⟩] w fun e w' => ∃ A c, e = .returned (.slice A 67 c) ∧ 67 ≤ c ∧ c ≤ maxLen ∧ St w.heap.size w w' [ownR 3 1 (.slice A 67 c) 67 (nints (Sg.dgs msg))] := by
 obtain ⟨i1, hi1, hy0, hy1, hy2⟩ := info_parts info_int
 obtain ⟨W, hr, ho, hg⟩ := run_make_own (P := Tryz.prog) w w.heap.size 125 3 i1 (.int .i64 0) 1 Tryz.underlying125 hi1 hy0 hy1 .i64 .i64 67 (by rw [hy2]; omega) (by unfold maxLen; omega) (Nat.le_refl _)
 have h1 : St w.heap.size w W [ownR 3 1 (.slice (some ⟨w.heap.size, 0, none⟩) 0 67) 0 (nints [])] := (St.nil w).new_own ⟨hg.os, hg.tape, hg.output, hg.size, fun k hk => hg.block k hk (by simp)⟩ ho
 have ksum := fun W' => sum_below msg (by omega) W'
 have hdg : Sg.dgs msg = Sg.dl (Sh.sha msg) ++ Sg.tail3 (Sg.lack (Sg.dl (Sh.sha msg))) := rfl
 have hsl : (Sh.sha msg).length = 32 := Sh.sha_length _
 have khex := fun W' => hex_spec (Sh.sha msg) (by omega) W'
 have hdl := Sg.dl_sha msg
 have hle := Sg.dl_le (Sh.sha msg)
 have hhx := Sg.dl_hex (Sh.sha msg)
 rw [hdg]
 generalize Sg.dl (Sh.sha msg) = D at hdl hle hhx ⊢
 generalize Sh.sha msg = H at ksum khex hhx
 generalize hHX : Sh.hex H = X at khex hhx
 have hXl : X.length = 64 := by rw [hhx, List.length_map, hdl]
 have HHX := Lib.hid hhx
 clear hi1 hy0 hy1 hy2 ho hg hdg hsl hHX hhx
 rw [show (((67 : Nat)) : Int) = 67 from rfl] at hr
 go_enter Tryz.func148, Tryz.ntmps148
 go_wp2_with fail
 refine (ksum _).mono ?_
 rintro e w1 ⟨rfl, b1⟩
 go_wp2_with fail
 refine (khex _).mono ?_
 rintro e w2 ⟨rfl, b2⟩
 have h2 := ((h1.under b1).under b2).iter ⟨X.toArray⟩
 clear hr ksum khex h1
 go_wp2_with fail
 go_loopg [3, 4] 64 (fun gf s3 s4 wx => ∃ (k : Nat) (v' : Value), k ≤ 64 ∧ 64 ≤ k + gf ∧ v' = s3 ∧ s4 = .int .i64 ((Sg.lack (D.take k) : Nat) : Int) ∧ St w.heap.size w wx [iterR w2.heap.size ⟨X.toArray⟩ k, ownR 3 1 v' k (nints (D.take k))])
 case atStart => exact ⟨0, _, by omega, by omega, rfl, rfl, h2⟩
 case round =>
  clear h2
  obtain ⟨k, v, hk, hgk, rfl, rfl, h⟩ := hrel
  by_cases hlt : k < 64
  ·obtain ⟨g', rfl⟩ : ∃ g', gk = g' + 1 := ⟨gk - 1, by omega⟩
   have hDk : k < D.length := by omega
   have hn15 := hle _ (List.getElem_mem hDk)
   have hz : X[k]'(by omega) = Sh.hexD D[k] := by
    have h0 := HHX.out
    subst h0
    rw [List.getElem_map]
   have hlk := Sg.lack_take D k hDk
   have hll := Sg.lack_le (D.take k)
   rw [List.length_take] at hll
   have htk : nints (D.take (k + 1)) = nints (D.take k) ++ [.int .i64 (D[k] : Int)] := by
    rw [List.take_succ_eq_append_getElem hDk]
    unfold nints
    rw [List.map_append]
    rfl
   generalize D[k] = n at hn15 hz hlk htk
   have ki := fun W => index_spec n (by omega) W
   have hasc := (idx_hex n (by omega)).2
   have hnx : ∀ ty, (Instr.next (.pointer (some ⟨w2.heap.size, 0, none⟩)) true ty).run Tryz.prog wr = .ok (.tuple #[.bool true, .int .i64 (k : Int), .int .i32 (((Sh.hexD n).toNat : Nat) : Int)]) (wr.iterAt w2.heap.size ⟨X.toArray⟩ (k + 1)) := fun ty => by
    have := Lib.run_next_ascii_at (P := Tryz.prog) wr w2.heap.size ⟨X.toArray⟩ k ty h.at_iter (by rw [bytes_size]; omega) (by
     rw [at_byte X k (by omega), hz]; exact hasc)
    rw [at_byte X k (by omega), hz] at this
    exact this
   have h3 := (h.step_iter (k + 1)).swap
   generalize wr.iterAt w2.heap.size ⟨X.toArray⟩ (k + 1) = W3 at hnx h3
   generalize Sh.hexD n = z at ki hnx
   generalize Sg.lack (D.take k) = l at hlk hll ⊢
   generalize nints (D.take k) = xs at htk h3
   have b1 : (k + 1) * 8 ≤ 140737488355328 := by omega
   have b2 : k + 1 ≤ maxLen := by unfold maxLen; omega
   have g1 : decide ((n : Int) < 0) = false := by simp
   have e15 : (15 : Int) - (n : Int) = ((15 - n : Nat) : Int) := by omega
   have H3 := Lib.hid (And.intro h3 (And.intro hlk htk))
   clear h hz hasc hlk htk hle hXl hdl h3
   go_wp2_with fail
   refine (ki _).mono ?_
   rintro e w' ⟨rfl, rfl⟩
   go_wp2_with (at_builtin; go_must (refine appendO 125 (te := 3) (u := .int .i64 (n : Int)) H3.out.1 Tryz.underlying125 info_int rfl rfl _ _ rfl rfl rfl rfl b2 b1 ?_); intro v8 w8 h8)
   have H8 := Lib.hid h8
   clear h8
   go_roundg g'
   case measure => omega
   case rel => exact ⟨k + 1, _, by omega, by omega, rfl, by rw [H3.out.2.1]; go_num, by rw [H3.out.2.2]; exact H8.out.swap⟩
  ·obtain rfl : k = 64 := by omega
   have htk : D.take 64 = D := List.take_of_length_le (by omega)
   rw [htk] at h ⊢
   have hll := Sg.lack_le D
   rw [hdl] at hll
   have hnx : ∀ ty, (Instr.next (.pointer (some ⟨w2.heap.size, 0, none⟩)) true ty).run Tryz.prog wr = .ok (.tuple #[.bool false]) wr := fun ty => Lib.run_next_end_at (P := Tryz.prog) wr w2.heap.size ⟨X.toArray⟩ 64 ty h.at_iter (by rw [bytes_size]; omega)
   have h3 := h.swap.tail
   have h4 := h.swap
   have HT := Lib.hid (show nints (D ++ Sg.tail3 (Sg.lack D)) = nints D ++ [.int .i64 ((Sg.lack D / 256 : Nat) : Int), .int .i64 ((Sg.lack D / 16 % 16 : Nat) : Int), .int .i64 ((Sg.lack D % 16 : Nat) : Int)] by unfold nints; rw [List.map_append]; rfl)
   obtain ⟨l, hlD⟩ : ∃ l, Sg.lack D = l := ⟨_, rfl⟩
   rw [hlD] at hll HT ⊢
   have HLD := Lib.hid hlD
   clear hlD
   have s1 := shr8 (l / 16) (by omega)
   have s2 := shr8 l (by omega)
   have e16 : ((l / 16 : Nat) : Int) = (l : Int) / 16 := by omega
   rw [e16] at s1
   have b1 : (64 + 3) * 8 ≤ 140737488355328 := by omega
   have b2 : 64 + 3 ≤ maxLen := by unfold maxLen; omega
   have H4 := Lib.hid h4
   clear h h3 h4 htk hle hXl hdl
   have HT2 := Lib.hid (And.intro e16 (And.intro s1 s2))
   clear e16 s1 s2
   go_wp2_with (at_builtin; go_must (refine appendM 125 (H4.out.alloc0 (.cells #[.int .i64 ((l : Int) / 256), .int .i64 (bits .and .i64 ((l : Int) / 16) 15), .int .i64 (bits .and .i64 (l : Int) 15)] 3)) Tryz.underlying125 info_int rfl (by decide) rfl _ _ rfl rfl ⟨wr.heap.size, 0, none⟩ 3 3 [.int .i64 ((l : Int) / 256), .int .i64 (bits .and .i64 ((l : Int) / 16) 15), .int .i64 (bits .and .i64 (l : Int) 15)] rfl rfl (new_row wr #[.int .i64 ((l : Int) / 256), .int .i64 (bits .and .i64 ((l : Int) / 16) 15), .int .i64 (bits .and .i64 (l : Int) 15)] 3) (by intro u hu; simp at hu; rcases hu with rfl | rfl | rfl <;> rfl) b2 b1 ?_); intro v8 w8 h8)
   obtain ⟨A1, c1, rfl, hc1, hm1⟩ := own_form h8.own
   have H8 := Lib.hid h8
   clear h8
   go_ret
   refine ⟨A1, c1, rfl, hc1, hm1, ?_⟩
   have h9 := H8.out.swap.tail
   rw [HT2.out.2.1, HT2.out.2.2] at h9
   rw [HLD.out, HT.out]
   exact h9
end Go.Proofs.YtjjpdnpbhdcpbaaGreat
namespace Go.Proofs.YtjjpdnpbhdcpbaaGreat
set_option linter.unusedVariables false
open Go.RowKit
set_option maxRecDepth 20000 in
set_option maxHeartbeats 2000000 in
theorem otleaf_spec (seed : Sg.Str) (i : Nat) (w : World) (hs : seed.length ≤ 1073741824) (hi : i < 9223372036854775808) :
 Calls Tryz.prog 150 #[.string ⟨seed.toArray⟩, .int .i64 i] w fun e w' => e = .returned (.string ⟨(Sg.otl seed i).toArray⟩) ∧ Below w.heap.size w w' := by
 have htl := Sg.tops_len seed i
 have hm : Sg.otl seed i = Mk.leaf (Sg.tops seed i 67) := rfl
 rw [hm]
 have kl := fun W => leaf_spec (Sg.tops seed i 67) (by rw [htl]; decide) W
 have hm67 : Sg.tops seed i 67 = Sg.tops seed i 67 := rfl
 have b0 : Below w.heap.size w (w.alloc (.cells #[.pointer none, .slice none 0 0] 134)) := (Below.refl _ w).alloc (Nat.le_refl _) _
 have u0 : Bu w.heap.size w.heap.size (Sg.tops seed i 0) (w.alloc (.cells #[.pointer none, .slice none 0 0] 134)) := Bu.new w
 clear hm hm67
 go_enter Tryz.func150, Tryz.ntmps150
 go_wp2
 go_loopw [7] (fun j wr => ∃ k : Nat, k ≤ 67 ∧ j = .int .i64 k ∧ Bu w.heap.size w.heap.size (Sg.tops seed i k) wr ∧ Below w.heap.size w wr) (fun j _ => 67 - (intOf j).toNat)
 case atStart => exact ⟨0, by decide, rfl, u0, b0⟩
 case round =>
  clear u0 b0
  obtain ⟨k, hk, rfl, hu, hbe⟩ := hrel
  by_cases hlt : k < 67
  ·have ks := fun W => secret_spec seed i k W hs hi (by omega)
   have hsl := Sg.sec_len seed i k
   have kw : ∀ W, Calls Tryz.prog 97 #[.string ⟨(Sg.sec seed i k).toArray⟩, .int .i64 i, .int .i64 k, .int .i64 0, .int .i64 15] W fun e w' => e = .returned (.string ⟨(Sg.wlk i k 0 15 (Sg.sec seed i k)).toArray⟩) ∧ Below W.heap.size W w' := fun W => walk_spec (Sg.sec seed i k) i k 0 15 W (by omega) hi (by omega) (by decide)
   have hts := Sg.tops_succ seed i k
   have hl := htl k
   have hwl := Sg.wlk_len i k 0 15 _ hsl
   generalize Sg.wlk i k 0 15 (Sg.sec seed i k) = y at kw hts hwl
   generalize Sg.sec seed i k = x at ks kw
   generalize Sg.tops seed i k = T at hts hl hu
   have HT := Lib.hid (And.intro hts hu)
   clear hts hu hsl kl htl
   have hd : decide ((k : Int) < 67) = true := by simp; omega
   go_wp2_with fail
   refine (ks _).mono ?_
   rintro e w1 ⟨rfl, b1⟩
   go_wp2_with fail
   refine (kw _).mono ?_
   rintro e w2 ⟨rfl, b2⟩
   have b12 := b1.trans (b2.mono b1.size)
   have u2 := HT.out.2.below b12
   have be2 := hbe.trans (b12.mono hbe.size)
   have kb := bu_write _ _ T y w2 u2 (by omega) be2.size
   clear u2
   go_wp2_with fail
   refine kb.mono ?_
   rintro e w3 ⟨rfl, u3, b3⟩
   have U3 := Lib.hid u3
   clear u3 kb
   go_wp2
   go_roundw
   case rel => exact ⟨k + 1, by omega, by go_num, by rw [HT.out.1]; exact U3.out, be2.trans b3⟩
   case measure => simp [intOf]; omega
  ·obtain rfl : k = 67 := by omega
   have kb := bu_string _ _ _ wr hu hbe.size
   clear hu htl
   go_wp2_with fail
   refine kb.mono ?_
   rintro e w1 ⟨rfl, u1, b1⟩
   clear u1 kb
   go_wp2_with fail
   refine (kl _).mono ?_
   rintro e w2 ⟨rfl, b2⟩
   go_wp2
   go_ret
   have b01 := hbe.trans b1
   exact ⟨rfl, b01.trans (b2.mono b01.size)⟩
set_option maxRecDepth 20000 in
set_option maxHeartbeats 2000000 in
theorem kleaves_spec (seed : Sg.Str) (h : Nat) (n : Int) (w : World) (hs : seed.length ≤ 1073741824) (hh : h ≤ 6) :
 Calls Tryz.prog 100 #[.agg #[.string ⟨seed.toArray⟩, .int .i64 (h : Int), .int .i64 n]] w (SlR (Sg.lvs seed (2 ^ h)) w) := by
 have hP : 2 ^ h ≤ 2 ^ 6 := Nat.pow_le_pow_right (by decide) hh
 have h4 : ((2 : Int) ^ h) = ((2 ^ h : Nat) : Int) := by simp
 have hll := Sg.lvs_len seed (2 ^ h)
 unfold SlR
 rw [hll]
 obtain ⟨P, hPe⟩ : ∃ P, 2 ^ h = P := ⟨_, rfl⟩
 rw [hPe] at h4 hP ⊢
 have h5 : wrap64 ((2 : Int) ^ h) = (P : Int) := by rw [h4, IntWalk.wrap64_in _ (by omega)]
 have s1 := (St.nil w).alloc 23 #[.string ⟨seed.toArray⟩, .int .i64 (h : Int), .int .i64 n]
 have c0 := s1.blk.cell 0
 have c1 := s1.blk.cell 1
 have z0 : St w.heap.size w (w.alloc (.cells #[.string ⟨seed.toArray⟩, .int .i64 (h : Int), .int .i64 n] 23)) [ownR 9 1 (.slice none 0 0) 0 (strs (Sg.lvs seed 0)), cellsR w.heap.size 23 #[.string ⟨seed.toArray⟩, .int .i64 (h : Int), .int .i64 n]] := s1.new_own (Below.refl _ _) (World.ownsRow_nil _ _ _ _)
 clear s1 hll hPe h4
 go_enter Tryz.func100, Tryz.ntmps100
 go_wp2
 rw [h5]
 clear h5
 go_loopw [3, 8] (fun v j wr => ∃ (k : Nat) (v' : Value), k ≤ P ∧ j = .int .i64 k ∧ v' = v ∧ St w.heap.size w wr [ownR 9 1 v' k (strs (Sg.lvs seed k)), cellsR w.heap.size 23 #[.string ⟨seed.toArray⟩, .int .i64 (h : Int), .int .i64 n]]) (fun _ j _ => P - (intOf j).toNat)
 case atStart => exact ⟨0, _, Nat.zero_le _, rfl, rfl, z0⟩
 case round =>
  clear z0 c0 c1
  obtain ⟨k, v', hk, rfl, rfl, hst⟩ := hrel
  have c0 := hst.swap.blk.cell 0
  by_cases hlt : k < P
  ·have kl := fun W => otleaf_spec seed k W hs (by omega)
   have hls := Sg.lvs_succ seed k
   generalize Sg.otl seed k = y at kl hls
   generalize Sg.lvs seed k = L at hls hst
   have b1 : (k + 1) * 16 ≤ 140737488355328 := by omega
   have b2 : k + 1 ≤ maxLen := by unfold maxLen; omega
   have HL := Lib.hid (And.intro hls hst)
   clear hls hst
   go_wp2_with fail
   refine (kl _).mono ?_
   rintro e w5 ⟨rfl, b5⟩
   have h5 := HL.out.2.under b5
   go_wp2_with (at_builtin; go_must (refine appendO 27 (te := 9) (u := .string ⟨y.toArray⟩) h5 Tryz.underlying27 info_str rfl rfl _ _ rfl rfl rfl rfl b2 b1 ?_); intro v8 w8 h8)
   have H8 := Lib.hid h8
   clear h5 h8
   go_roundw
   case rel =>
    exact ⟨k + 1, _, by omega, by go_num, rfl, by rw [HL.out.1, strs_append]; exact H8.out⟩
   case measure => simp [intOf]; omega
  ·obtain rfl : k = P := by omega
   obtain ⟨A1, c1, rfl, hc1, hm1⟩ := own_form hst.own
   have HS := Lib.hid hst
   clear hst
   go_wp2
   go_ret
   exact ⟨A1, c1, rfl, hc1, hm1, ((HS.out.swap).tail)⟩
def treeB (seed : Sg.Str) (h : Int) : Bool := decide (seed.length = 32) && (decide (0 ≤ h) && decide (h ≤ 6))
def validB (seed : Sg.Str) (h n : Int) : Bool := treeB seed h && (decide (0 ≤ n) && decide (n ≤ ((2 ^ h.toNat : Nat) : Int)))
theorem treeB_parts {seed : Sg.Str} {h : Int} (k : treeB seed h = true) : seed.length = 32 ∧ ∃ m : Nat, h = m ∧ m ≤ 6 := by
 unfold treeB at k
 simp only [Bool.and_eq_true, decide_eq_true_eq] at k
 exact ⟨k.1, h.toNat, by omega, by omega⟩
theorem pow6 {m : Nat} (h : m ≤ 6) : 2 ^ m ≤ 64 := Nat.pow_le_pow_right (by decide) h
theorem shl_facts (m P : Nat) (hm : m ≤ 6) (hP : 2 ^ m = P) : wrap64 ((2 : Int) ^ m) = (P : Int) ∧ IntKind.i64.wrap ((2 : Int) ^ m) = (P : Int) := by
 have h1 := pow6 hm
 have h4 : ((2 : Int) ^ m) = ((2 ^ m : Nat) : Int) := by simp
 rw [hP] at h4 h1
 constructor
 ·rw [h4, IntWalk.wrap64_in _ (by omega)]
 ·rw [h4, IntKind.wrap_i64]; omega
set_option maxRecDepth 20000 in
set_option maxHeartbeats 1000000 in
theorem tree_spec (seed : Sg.Str) (h n : Int) (w : World) :
 Calls Tryz.prog 137 #[.agg #[.string ⟨seed.toArray⟩, .int .i64 h, .int .i64 n]] w fun e w' => e = .returned (.bool (treeB seed h)) ∧ Below w.heap.size w w' := by
 have b0 : Below w.heap.size w (w.alloc (.cells #[.string ⟨seed.toArray⟩, .int .i64 h, .int .i64 n] 23)) := (Below.refl _ w).alloc (Nat.le_refl _) _
 unfold treeB
 by_cases h1 : seed.length = 32
 ·have g1 : ((seed.length : Int) == 32) = true := by rw [h1]; rfl
  rw [decide_eq_true h1]
  by_cases h2 : 0 ≤ h
  ·rw [decide_eq_true h2]
   have g2 : decide (h ≥ 0) = true := decide_eq_true h2
   by_cases h3 : h ≤ 6
   ·rw [decide_eq_true h3]
    have g3 : decide (h ≤ 6) = true := decide_eq_true h3
    clear h1 h2 h3
    go_enter Tryz.func137, Tryz.ntmps137
    go_wp2
    go_ret
    exact ⟨rfl, b0⟩
   ·rw [decide_eq_false h3]
    have g3 : decide (h ≤ 6) = false := decide_eq_false h3
    clear h1 h2 h3
    go_enter Tryz.func137, Tryz.ntmps137
    go_wp2
    go_ret
    exact ⟨rfl, b0⟩
  ·rw [decide_eq_false h2]
   have g2 : decide (h ≥ 0) = false := decide_eq_false h2
   clear h1 h2
   go_enter Tryz.func137, Tryz.ntmps137
   go_wp2
   go_ret
   exact ⟨rfl, b0⟩
 ·have g1 : ((seed.length : Int) == 32) = false := by rw [beq_eq_false_iff_ne]; omega
  rw [decide_eq_false h1]
  clear h1
  go_enter Tryz.func137, Tryz.ntmps137
  go_wp2
  go_ret
  exact ⟨rfl, b0⟩
set_option maxRecDepth 20000 in
set_option maxHeartbeats 2000000 in
theorem valid_key (seed : Sg.Str) (h n : Int) (w : World) :
 Calls Tryz.prog 95 #[.agg #[.string ⟨seed.toArray⟩, .int .i64 h, .int .i64 n]] w fun e w' => e = .returned (.bool (validB seed h n)) ∧ Below w.heap.size w w' := by
 obtain ⟨W, hW⟩ : ∃ W, w.alloc (.cells #[.string ⟨seed.toArray⟩, .int .i64 h, .int .i64 n] 23) = W := ⟨_, rfl⟩
 have b0 : Below w.heap.size w W := by rw [← hW]; exact (Below.refl _ w).alloc (Nat.le_refl _) _
 have bl : Blk W w.heap.size 23 #[.string ⟨seed.toArray⟩, .int .i64 h, .int .i64 n] := by rw [← hW]; exact Blk.new w _ _
 have hcell : ∀ W', Below W.heap.size W W' → W'.cell? ⟨w.heap.size, 0, none⟩ = some (.string ⟨seed.toArray⟩) ∧ W'.cell? ⟨w.heap.size, 1, none⟩ = some (.int .i64 h) ∧ W'.cell? ⟨w.heap.size, 2, none⟩ = some (.int .i64 n) := fun W' hb => ⟨below_cell hb (bl.cell 0), below_cell hb (bl.cell 1), below_cell hb (bl.cell 2)⟩
 have kt := fun W' => tree_spec seed h n W'
 have hv : validB seed h n = (treeB seed h && (decide (0 ≤ n) && decide (n ≤ ((2 ^ h.toNat : Nat) : Int)))) := rfl
 have y0 := (Below.refl W.heap.size W).drew
 have HB := Lib.hid (And.intro hcell b0)
 clear hcell b0 bl
 cases ht : treeB seed h with
 | false =>
   rw [ht] at kt hv
   rw [hv]
   clear hv ht
   go_enter Tryz.func95, Tryz.ntmps95
   go_wp2_with fail
   refine wp_region_noPanic ?_
   refine wp_region_held_drew (S := (fun w' => w'.cell? ⟨w.heap.size, 0, none⟩ = some (.string ⟨seed.toArray⟩) ∧ w'.cell? ⟨w.heap.size, 1, none⟩ = some (.int .i64 h) ∧ w'.cell? ⟨w.heap.size, 2, none⟩ = some (.int .i64 n))) (by kernel_rfl) ?_ (fun hH0 => ?_)
   ·exact HB.out.1 _ y0
   refine tk 0 3 hH0 ?_
   refine rdy [1] ?_
   refine an 4 fun K hK => ?_
   go_simp; (
    with_reducible refine (kt _).mono ?_
    rintro e w1 ⟨rfl, b1⟩
    have y1 := y0.trans (b1.mono y0.size)); go_wp2_with fail
   refine hK.out _ _ ?_ (fun hH1 => ?_)
   ·exact HB.out.1 _ y1
   clear hK K hH0
   try simp only [pu]
   refine tk 2 5 hH1 ?_
   refine tu 3 6 hH1 ?_
   refine tu 4 7 hH1 ?_
   refine tu 5 8 hH1 ?_
   refine tk 6 9 hH1 ?_
   refine tk 7 10 hH1 ?_
   refine tu 8 11 hH1 ?_
   refine tu 9 12 hH1 ?_
   refine tu 10 13 hH1 ?_
   refine tu 11 14 hH1 ?_
   refine tu 12 15 hH1 ?_
   refine tu 13 16 hH1 ?_
   refine tk 14 17 hH1 ?_
   refine tk 15 2 hH1 ?_
   refine dn ?_ _
   all_goals (refine NoPanic.normal ?_)
   go_wp2
   go_ret
   exact ⟨rfl, HB.out.2.trans (y1.mono HB.out.2.size)⟩
 | true =>
   rw [ht] at kt hv
   obtain ⟨_, m, rfl, hm⟩ := treeB_parts ht
   rw [Int.toNat_natCast] at hv
   obtain ⟨P, hP⟩ : ∃ P, 2 ^ m = P := ⟨_, rfl⟩
   obtain ⟨h5, h6⟩ := shl_facts m P hm hP
   rw [hP] at hv
   rw [hv]
   clear hv ht hP
   by_cases h1 : 0 ≤ n
   ·have g1 : decide (n ≥ 0) = true := decide_eq_true h1
    rw [decide_eq_true h1]
    by_cases h2 : n ≤ (P : Int)
    ·have g2 : decide (n ≤ (P : Int)) = true := decide_eq_true h2
     rw [g2]
     clear h1 h2
     go_enter Tryz.func95, Tryz.ntmps95
     go_wp2_with fail
     refine wp_region_noPanic ?_
     refine wp_region_held_drew (S := (fun w' => w'.cell? ⟨w.heap.size, 0, none⟩ = some (.string ⟨seed.toArray⟩) ∧ w'.cell? ⟨w.heap.size, 1, none⟩ = some (.int .i64 (m : Int)) ∧ w'.cell? ⟨w.heap.size, 2, none⟩ = some (.int .i64 n))) (by kernel_rfl) ?_ (fun hH0 => ?_)
     ·exact HB.out.1 _ y0
     refine tk 0 3 hH0 ?_
     refine rdy [1] ?_
     refine an 4 fun K hK => ?_
     go_simp; (
      with_reducible refine (kt _).mono ?_
      rintro e w1 ⟨rfl, b1⟩
      have y1 := y0.trans (b1.mono y0.size)); go_wp2_with fail
     refine hK.out _ _ ?_ (fun hH1 => ?_)
     ·exact HB.out.1 _ y1
     clear hK K hH0
     try simp only [pu]
     refine tk 2 5 hH1 ?_
     refine tk 3 6 hH1 ?_
     refine tk 4 7 hH1 ?_
     refine tk 5 8 hH1 ?_
     refine tk 6 9 hH1 ?_
     refine tk 7 10 hH1 ?_
     refine tk 8 11 hH1 ?_
     refine tk 9 12 hH1 ?_
     refine tk 10 13 hH1 ?_
     refine tk 11 14 hH1 ?_
     refine tk 12 15 hH1 ?_
     refine tk 13 16 hH1 ?_
     refine tk 14 17 hH1 ?_
     refine tk 15 2 hH1 ?_
     refine dn ?_ _
     all_goals (refine NoPanic.normal ?_)
     go_wp2
     go_ret
     exact ⟨rfl, HB.out.2.trans (y1.mono HB.out.2.size)⟩
    ·have g2 : decide (n ≤ (P : Int)) = false := decide_eq_false h2
     rw [g2]
     clear h1 h2
     go_enter Tryz.func95, Tryz.ntmps95
     go_wp2_with fail
     refine wp_region_noPanic ?_
     refine wp_region_held_drew (S := (fun w' => w'.cell? ⟨w.heap.size, 0, none⟩ = some (.string ⟨seed.toArray⟩) ∧ w'.cell? ⟨w.heap.size, 1, none⟩ = some (.int .i64 (m : Int)) ∧ w'.cell? ⟨w.heap.size, 2, none⟩ = some (.int .i64 n))) (by kernel_rfl) ?_ (fun hH0 => ?_)
     ·exact HB.out.1 _ y0
     refine tk 0 3 hH0 ?_
     refine rdy [1] ?_
     refine an 4 fun K hK => ?_
     go_simp; (
      with_reducible refine (kt _).mono ?_
      rintro e w1 ⟨rfl, b1⟩
      have y1 := y0.trans (b1.mono y0.size)); go_wp2_with fail
     refine hK.out _ _ ?_ (fun hH1 => ?_)
     ·exact HB.out.1 _ y1
     clear hK K hH0
     try simp only [pu]
     refine tk 2 5 hH1 ?_
     refine tk 3 6 hH1 ?_
     refine tk 4 7 hH1 ?_
     refine tk 5 8 hH1 ?_
     refine tk 6 9 hH1 ?_
     refine tk 7 10 hH1 ?_
     refine tk 8 11 hH1 ?_
     refine tk 9 12 hH1 ?_
     refine tk 10 13 hH1 ?_
     refine tk 11 14 hH1 ?_
     refine tk 12 15 hH1 ?_
     refine tk 13 16 hH1 ?_
     refine tk 14 17 hH1 ?_
     refine tk 15 2 hH1 ?_
     refine dn ?_ _
     all_goals (refine NoPanic.normal ?_)
     go_wp2
     go_ret
     exact ⟨rfl, HB.out.2.trans (y1.mono HB.out.2.size)⟩
   ·have g1 : decide (n ≥ 0) = false := decide_eq_false h1
    rw [decide_eq_false h1]
    clear h1
    go_enter Tryz.func95, Tryz.ntmps95
    go_wp2_with fail
    refine wp_region_noPanic ?_
    refine wp_region_held_drew (S := (fun w' => w'.cell? ⟨w.heap.size, 0, none⟩ = some (.string ⟨seed.toArray⟩) ∧ w'.cell? ⟨w.heap.size, 1, none⟩ = some (.int .i64 (m : Int)) ∧ w'.cell? ⟨w.heap.size, 2, none⟩ = some (.int .i64 n))) (by kernel_rfl) ?_ (fun hH0 => ?_)
    ·exact HB.out.1 _ y0
    refine tk 0 3 hH0 ?_
    refine rdy [1] ?_
    refine an 4 fun K hK => ?_
    go_simp; (
     with_reducible refine (kt _).mono ?_
     rintro e w1 ⟨rfl, b1⟩
     have y1 := y0.trans (b1.mono y0.size)); go_wp2_with fail
    refine hK.out _ _ ?_ (fun hH1 => ?_)
    ·exact HB.out.1 _ y1
    clear hK K hH0
    try simp only [pu]
    refine tk 2 5 hH1 ?_
    refine tk 3 6 hH1 ?_
    refine tk 4 7 hH1 ?_
    refine tk 5 8 hH1 ?_
    refine tk 6 9 hH1 ?_
    refine tk 7 10 hH1 ?_
    refine tu 8 11 hH1 ?_
    refine tu 9 12 hH1 ?_
    refine tu 10 13 hH1 ?_
    refine tu 11 14 hH1 ?_
    refine tu 12 15 hH1 ?_
    refine tu 13 16 hH1 ?_
    refine tk 14 17 hH1 ?_
    refine tk 15 2 hH1 ?_
    refine dn ?_ _
    all_goals (refine NoPanic.normal ?_)
    go_wp2
    go_ret
    exact ⟨rfl, HB.out.2.trans (y1.mono HB.out.2.size)⟩
end Go.Proofs.YtjjpdnpbhdcpbaaGreat
namespace Go.Proofs.YtjjpdnpbhdcpbaaGreat
set_option linter.unusedVariables false
open Go.RowKit
def BuAt (b : Nat) (l : List UInt8) (w : World) (v : Value) : Prop :=
 ∃ p, (p = .pointer none ∨ p = .pointer (some ⟨b, 0, none⟩)) ∧ w.heap[b]? = some (.cells #[p, v] 134 (0, 0)) ∧ w.ownsRowF 0 5 1 v l.length (vals l) ∧ v.ownBlock ≠ some b
def buR (b : Nat) (l : List UInt8) : Res where
 P w F := ∃ v, BuAt b l w v ∧ F b ∧ (∀ k, v.ownBlock = some k → F k) ∧ ∀ k, F k → k < w.heap.size
 lt h := by
  obtain ⟨v, _, _, _, h4⟩ := h
  exact h4
 mod h hm hG := by
  obtain ⟨v, ⟨p, hp, hb, ho, hne⟩, h1, h2, h3⟩ := h
  refine ⟨v, ⟨p, hp, (hm.block b (h3 b h1) (hG b h1)).trans hb, ?_, hne⟩, h1, h2, fun k hk => Nat.lt_of_lt_of_le (h3 k hk) hm.size⟩
  refine ⟨ho.1, ?_⟩
  rcases ho.2 with h4 | ⟨g, cap, cur, fz, rfl, hg, hh, r⟩
  ·exact .inl h4
  ·exact .inr ⟨g, cap, cur, fz, rfl, hg, (hm.block g (ho.lt g rfl).2 (hG g (h2 g rfl))).trans hh, r⟩
theorem BuAt.bu {B b : Nat} {l : List UInt8} {w : World} {v : Value} (h : BuAt b l w v) (hb : B ≤ b) (hv : ∀ k, v.ownBlock = some k → B ≤ k) : Bu B b l w := by
 obtain ⟨p, hp, h1, h2, h3⟩ := h
 refine Bu.of_parts hp ⟨hb, v, h1, ?_, fun e => h3 e⟩
 rw [vals_length]
 refine ⟨h2.1, ?_⟩
 rcases h2.2 with h4 | ⟨g, cap, cur, fz, rfl, hg, r⟩
 ·exact .inl h4
 ·exact .inr ⟨g, cap, cur, fz, rfl, hv g rfl, r⟩
theorem appSF_at {P : Program} (w : World) (t u ty e : TypeId) (i : TypeInfo) (ht : P.underlying t = some (.slice e)) (hu : P.underlying u = some .string) (hi : P.info? e = some i) (hz : i.zero = some (.int .u8 0)) (hsize : i.size = 1) (hby : i.bytes = 1)
 (v : Value) (n : Nat) (xs : List Value) (hown : w.ownsRowF 0 e 1 v n xs) (s : ByteArray) (h63 : n + s.size ≤ 140737488355328) (v' : Value) (w' : World) (hr : (Builtin.append_ #[t, u] ty #[v, .string s]).run P w = .ok v' w') :
 v'.ownBlock = v.ownBlock ∨ v'.ownBlock = some w.heap.size := by
 have hmx : n + s.size ≤ maxLen := by unfold maxLen; omega
 rcases hown.2 with ⟨rfl, rfl⟩ | ⟨g, cap, cur, fz, rfl, hbg, hg, hfz, hnc, hcm, hcs, htake⟩
 ·by_cases h0 : 0 < s.size
  ·have r1 := run_append_nil_string (P := P) w t u ty e i (.int .u8 0) ht hu hi hz s h0 (by omega) (by rw [hby]; omega)
   rw [hr] at r1
   injection r1 with r1 _
   subst r1
   exact .inr rfl
  ·obtain ⟨v2, w2, r1, _, _, r4⟩ := Lib.run_append_own_stringF (P := P) w 0 t u ty e i ht hu hi hz hsize hby (.slice none 0 0) 0 xs hown s hmx h63 (Nat.zero_le _)
   rw [hr] at r1
   injection r1 with r1 _
   subst r1
   rw [r4.2 ⟨rfl, by omega⟩]
   exact .inl rfl
 ·have hxl : xs.length = n := by have := hown.1; omega
  by_cases hroom : n + s.size ≤ cap
  ·have r1 := Lib.run_append_room_stringF (P := P) w t u ty e i ht hu hi hsize g n cap cur fz hg (by omega) s hroom (by omega)
   rw [hr] at r1
   injection r1 with r1 _
   subst r1
   exact .inl rfl
  ·have r1 := Lib.run_append_grow_string (P := P) w t u ty e i (.int .u8 0) ht hu hi hz ⟨g, 0, none⟩ n cap xs (by rw [hsize]; omega) (hown.cells (g := g) rfl) s (by omega) (by omega) (by rw [hby]; exact growslice_fits (by omega) (by omega))
   rw [hr] at r1
   injection r1 with r1 _
   subst r1
   exact .inr rfl
theorem app_strL {P : Program} {ops : Array Oper} {rest : List Oper} {o : Oper} {a : Act} {Q : Exit → Act → World → Prop} {w : World} (hgd : o.guard = none) (sl x : Operand) (t u e : TypeId) (ho : o.op = .call { callee := .builtin .append, args := #[sl, x], argTypes := #[t, u] })
 (i : TypeInfo) (ht : P.underlying t = some (.slice e)) (hu : P.underlying u = some .string) (hi : P.info? e = some i) (hz : i.zero = some (.int .u8 0)) (hsize : i.size = 1) (hby : i.bytes = 1)
 (v : Value) (n : Nat) (xs : List Value) (hs : a.eval sl = v) (hown : w.ownsRowF 0 e 1 v n xs) (s : ByteArray) (hx : a.eval x = .string s) (h63 : n + s.size ≤ 140737488355328)
 (h : ∀ v' w', w'.ownsRowF 0 e 1 v' (n + s.size) (xs ++ Lib.strCells s) → w.grownBy w' v.ownBlock → (v'.ownBlock = v.ownBlock ∨ v'.ownBlock = some w.heap.size) → wpList P ops Q rest (a.put o.dst v') w') : wpList P ops Q (o :: rest) a w := by
 refine wpList_plain hgd fun K hK => ?_
 obtain ⟨v', w', hr, h2, h3, h4⟩ := Lib.run_append_own_stringF (P := P) w 0 t u o.type e i ht hu hi hz hsize hby v n xs hown s (by unfold maxLen; omega) h63 (Nat.zero_le _)
 have hat := appSF_at w t u o.type e i ht hu hi hz hsize hby v n xs hown s h63 v' w' hr
 unfold Oper.wp execOp
 simp only [ho, resolve, invoke, builtin, Sem.run_bind, Sem.run_pure, Result.andThen_ok, List.map_toArray, List.map_cons, List.map_nil, hs, hx, hr]
 exact hK _ _ (h v' w' h2 h3 hat)
section
variable {lo : Nat} {w0 w w' : World} {Rs : List Res} {b : Nat} {l : List UInt8}
theorem St.bu (h : St lo w0 w (buR b l :: Rs)) : Bu lo b l w := by
 obtain ⟨F, ⟨v, h1, h2, h3, h4⟩, h5, _⟩ := h.open
 exact h1.bu (h5 b h2) (fun k hk => h5 k (h3 k hk))
theorem St.new_bu (h : St lo w0 w Rs) : St lo w0 (w.alloc (.cells #[.pointer none, .slice none 0 0] 134)) (buR w.heap.size [] :: Rs) :=
 h.new (F := fun k => k = w.heap.size) ((Below.refl _ w).alloc (Nat.le_refl _) _) ⟨.slice none 0 0, ⟨_, .inl rfl, heap_alloc_new w _, World.ownsRowF_nil _ _ _ _, by simp [Value.ownBlock]⟩, rfl, by simp [Value.ownBlock], fun k hk => by subst hk; simp⟩ (fun k hk => by omega)
set_option maxRecDepth 20000 in
set_option maxHeartbeats 400000 in
theorem check_mod (w : World) (l : List UInt8) (v : Value) (h : BuAt b l w v) :
 Calls Tryz.prog 157 #[.pointer (some ⟨b, 0, none⟩)] w fun e w' => e = .returned (.tuple #[]) ∧ w'.heap[b]? = some (.cells #[.pointer (some ⟨b, 0, none⟩), v] 134 (0, 0)) ∧ Mod (fun k => k = b) w w' := by
 obtain ⟨p, hp, hbk, ho, hne⟩ := h
 obtain ⟨j, hj, hjs⟩ := Option.map_eq_some_iff.1 size_builder
 have c0 : w.cell? ⟨b, 0, none⟩ = some p := by rw [Lib.cell_of_heap hbk]; rfl
 have hsh : w.shape? b = some (134, 2) := by unfold World.shape?; rw [hbk]; rfl
 have hf : w.frozen? ⟨b, 0, none⟩ = false := Lib.frozen_of_heap hbk 0
 rcases hp with rfl | rfl
 ·have k1 := Lib.run_to_unsafe (P := Tryz.prog) w ⟨b, 0, none⟩ Tryz.underlying132 Tryz.underlying198 hj (by rw [hjs]; decide) hsh (Nat.zero_lt_succ 1)
  have k2 := Lib.run_from_unsafe (P := Tryz.prog) w ⟨b, 0, none⟩ Tryz.underlying198 Tryz.underlying132 hj hsh lies_builder
  have hres : (w.setCell ⟨b, 0, none⟩ (.pointer (some ⟨b, 0, none⟩))).heap[b]? = some (.cells #[.pointer (some ⟨b, 0, none⟩), v] 134 (0, 0)) := by
   have := Blk.set_ (g := b) (show Blk w b _ _ from hbk) 0 (.pointer (some ⟨b, 0, none⟩))
   exact this
  have HR := Lib.hid hres
  clear hres hbk hsh ho
  go_enter Tryz.func157, Tryz.ntmps157
  go_wp2
  rw [run_callFunc_extern Tryz.func184 (by kernel_rfl) (by kernel_rfl) (by kernel_rfl) (e := Extern.AbiNoEscape.same) (by kernel_rfl)]
  rw [Lib.run_noEscape]
  simp only [Result.andThen]
  rw [Oper.upon_value]
  go_wp2
  go_end0
  exact ⟨rfl, HR.out, mod_set w b 0 _⟩
 ·have k1 := Lib.run_neq_ptr_same (P := Tryz.prog) w ⟨b, 0, none⟩ Tryz.underlying132 hj
  have HR := Lib.hid hbk
  clear hbk hsh ho hf
  go_enter Tryz.func157, Tryz.ntmps157
  go_wp2
  go_end0
  exact ⟨rfl, HR.out, Mod.refl _ w⟩
theorem rowF_mod {S : Nat → Prop} {w w' : World} {base : Nat} {e : TypeId} {size : Nat} {v : Value} {n : Nat} {xs : List Value} (h : Mod S w w') (ho : w.ownsRowF base e size v n xs) (hv : ∀ k, v.ownBlock = some k → ¬ S k) : w'.ownsRowF base e size v n xs := by
 refine ⟨ho.1, ?_⟩
 rcases ho.2 with h4 | ⟨g, cap, cur, fz, rfl, hg, hh, r⟩
 ·exact .inl h4
 ·exact .inr ⟨g, cap, cur, fz, rfl, hg, (h.block g (ho.lt g rfl).2 (hv g rfl)).trans hh, r⟩
set_option maxRecDepth 20000 in
set_option maxHeartbeats 400000 in
theorem s_write (h : St lo w0 w (buR b l :: Rs)) (s : List UInt8) (hlen : l.length + s.length ≤ 140737488355328) :
 Calls Tryz.prog 111 #[.pointer (some ⟨b, 0, none⟩), .string ⟨s.toArray⟩] w fun e w' => e = .returned (.tuple #[.int .i64 s.length, .nilIface]) ∧ St lo w0 w' (buR b (l ++ s) :: Rs) := by
 obtain ⟨i0, hi, hz0, hz1, hz2⟩ := info_parts info_byte
 obtain ⟨F, ⟨v, hat, hFb, hFv, hFs⟩, hFlo, hcl⟩ := h.open
 have hat' := hat
 obtain ⟨p, hp, _, ho, hne⟩ := hat'
 have HC := Lib.hid (And.intro @hcl (And.intro hFb (And.intro hFv hFs)))
 have hFb' := hFs b hFb
 have HS := Lib.hid (bytes_size s)
 clear hp hcl hFv hFs hFb hFlo h
 go_enter Tryz.func111, Tryz.ntmps111
 go_wp2_with (go_at_call 157; refine (check_mod w l v hat).mono ?_)
 rintro e w1 ⟨rfl, hbk, hm1⟩
 clear hat
 have hown : w1.ownsRowF 0 5 1 v l.length (vals l) := rowF_mod hm1 ho (fun k hk e => hne (by rw [hk, e]))
 have c0 : w1.cell? ⟨b, 0, none⟩ = some (.pointer (some ⟨b, 0, none⟩)) := by rw [Lib.cell_of_heap hbk]; rfl
 have c1 : w1.cell? ⟨b, 1, none⟩ = some v := by rw [Lib.cell_of_heap hbk]; rfl
 have hsz := hm1.size
 have HO := Lib.hid ho
 clear ho
 have hlt : b < w1.heap.size := by omega
 go_wp2_with (at_builtin; go_must (refine app_strL rfl _ _ 76 9 5 rfl i0 Tryz.underlying76 Tryz.underlying9 hi hz0 hz1 hz2 _ _ _ rfl hown ⟨s.toArray⟩ rfl (by rw [HS.out]; omega) ?_))
 intro v' w2 hown' hgrow hat
 have hb2 : w2.heap[b]? = some (.cells #[.pointer (some ⟨b, 0, none⟩), v] 134 (0, 0)) := by
  rw [hgrow.block b hlt (fun e => hne e.symm)]
  exact hbk
 have d0 : w2.cell? ⟨b, 0, none⟩ = some (.pointer (some ⟨b, 0, none⟩)) := by rw [Lib.cell_of_heap hb2]; rfl
 have d1 : w2.cell? ⟨b, 1, none⟩ = some v := by rw [Lib.cell_of_heap hb2]; rfl
 have f1 : w2.frozen? ⟨b, 1, none⟩ = false := Lib.frozen_of_heap hb2 1
 obtain ⟨ao, n', cap, hv'⟩ : ∃ ao n' cap, v' = .slice ao n' cap := by
  rcases hown'.2 with ⟨hv, _⟩ | ⟨g, cap, cur, fz, hv, _⟩
  ·exact ⟨_, _, _, hv⟩
  ·exact ⟨_, _, _, hv⟩
 have HH := Lib.hid (And.intro hown' (And.intro hgrow (And.intro hat (And.intro hb2 (And.intro hown hm1)))))
 clear hown' hgrow hbk hb2 hown hm1 hat
 subst hv'
 go_wp2
 go_ret2
 refine ⟨?_, ?_⟩
 ·refine ret_eq ?_
  simp
 obtain ⟨k1, k2, k3, k4⟩ := HC.out
 obtain ⟨g1, g2, g3, g4, g5, g6⟩ := HH.out
 have hmF : Mod F w w2 := (g6.mono (fun i _ e => by subst e; exact k2)).grown g2 (fun k hk _ => k3 k hk)
 have hloc : ∀ k, (Value.slice ao n' cap).ownBlock = some k → F k ∨ w.heap.size ≤ k := fun k hk => by
  rcases g3 with g3 | g3
  ·exact .inl (k3 k (by rw [← g3]; exact hk))
  ·rw [g3] at hk
   injection hk with hk
   refine .inr ?_
   have := g6.size
   omega
 have hneb : (Value.slice ao n' cap).ownBlock ≠ some b := by
  rcases g3 with g3 | g3
  ·rw [g3]; exact hne
  ·rw [g3]
   simp
   have := g6.size
   omega
 refine k1 (w' := w2.setCell ⟨b, 1, none⟩ (.slice ao n' cap)) (F' := fun k => (F k ∨ w.heap.size ≤ k) ∧ k < w2.heap.size) (buR b (l ++ s)) (hmF.setCell (fun _ => k2) _) ⟨.slice ao n' cap, ⟨_, .inr rfl, ?_, ?_, hneb⟩, ⟨.inl k2, by have := hmF.size; omega⟩, fun k hk => ⟨hloc k hk, (g1.lt k hk).2⟩, fun k hk => by simpa [World.setCell] using hk.2⟩ (fun k hk => hk.1)
 ·exact Blk.set_ (g := b) (show Blk w2 b _ _ from g4) 1 _
 ·have := rowF_mod (mod_set w2 b 1 (.slice ao n' cap)) g1 (fun k hk e => hneb (by rw [hk, e]))
  simpa [vals, Lib.strCells] using this
end
end Go.Proofs.YtjjpdnpbhdcpbaaGreat
namespace Go.Proofs.YtjjpdnpbhdcpbaaGreat
set_option linter.unusedVariables false
open Go.ChangeShapes hiding strs
open Go.WideShapes Go.ChangeAt Go.RowKit Go.Deep
theorem flat_len {α β : Type} (f : α → List β) (n : Nat) (hf : ∀ a, (f a).length = n) (L : List α) : (L.flatMap f).length = L.length * n := by
 induction L with
 | nil => simp
 | cons a L ih => simp only [List.flatMap_cons, List.length_append, hf, ih, List.length_cons]; rw [Nat.add_mul]; omega
theorem flat_get {α β : Type} (f : α → List β) (n : Nat) (hf : ∀ a, (f a).length = n) : ∀ (L : List α) (k j : Nat) (hk : k < L.length), j < n → (L.flatMap f)[k * n + j]? = (f L[k])[j]? := by
 intro L
 induction L with
 | nil => intro k j hk; simp at hk
 | cons a L ih =>
   intro k j hk hj
   cases k with
   | zero => simp only [List.flatMap_cons, Nat.zero_mul, Nat.zero_add, List.getElem_cons_zero]; rw [List.getElem?_append_left (by rw [hf]; exact hj)]
   | succ k =>
     simp only [List.flatMap_cons, List.getElem_cons_succ]
     rw [List.getElem?_append_right (by rw [hf, Nat.add_mul]; omega), hf]
     rw [← ih k j (by simpa using hk) hj]
     congr 1
     rw [Nat.add_mul]; omega
end Go.Proofs.YtjjpdnpbhdcpbaaGreat
namespace Go.Proofs.YtjjpdnpbhdcpbaaGreat
set_option linter.unusedVariables false
open Go.RowKit
theorem bool_inv {H : Type} {P : Program} {e : TypeId} (he : P.underlying e = some .bool) {v : Value} {z : DataW H × List MemPlace} (h : plainElem P e v = some z) : ∃ c, v = .bool c ∧ z = (.lit (.bool c), []) := by
 unfold plainElem at h
 rw [he] at h
 cases v <;> simp at h
 exact ⟨_, rfl, h.symm⟩
theorem own_mod {G : Nat → Prop} {w w' : World} {H : Type} {P : Program} {k : TypeId} {R : Value → Option (DataW H × List MemPlace)} {b n : Nat} {D : DataW H} (h : w.ownsMap P k R b n D) (hm : Mod G w w') (hb : ¬ G b) : w'.ownsMap P k R b n D := by
 have hlt := h.lt
 obtain ⟨es, clock, h1, h2⟩ := h
 exact ⟨es, clock, (hm.block b hlt hb).trans h1, h2⟩
def mapR (k e : TypeId) (b n : Nat) (D : DataW Unit) : Res where
 P w F := w.ownsMap Tryz.prog k (plainElem Tryz.prog e) b n D ∧ F = (fun j => j = b)
 lt h j hj := by obtain ⟨hb, rfl⟩ := h; subst hj; exact hb.lt
 mod h hm hG := by obtain ⟨hb, rfl⟩ := h; exact ⟨own_mod hb hm (hG _ rfl), rfl⟩
section
variable {lo : Nat} {w0 w w' : World} {Rs : List Res} {k e t : TypeId} {b n n' : Nat} {D D' : DataW Unit}
theorem St.map (h : St lo w0 w (mapR k e b n D :: Rs)) : w.ownsMap Tryz.prog k (plainElem Tryz.prog e) b n D := by
 obtain ⟨_, _, F, V, h1, _⟩ := h
 exact h1.1
theorem St.made (h : St lo w0 w Rs) (k e : TypeId) : St lo w0 (w.alloc (.map #[] 0)) (mapR k e w.heap.size 0 (.map []) :: Rs) :=
 h.new ((Below.refl _ w).alloc (Nat.le_refl _) _) ⟨World.ownsMap_made w _ _ _, rfl⟩ (fun j hj => by subst hj; exact Nat.le_refl _)
theorem St.mapped (h : St lo w0 w (mapR k e b n D :: Rs)) (ho : w'.ownsMap Tryz.prog k (plainElem Tryz.prog e) b n' D') (hg : w.grownBy w' (some b)) : St lo w0 w' (mapR k e b n' D' :: Rs) := by
 obtain ⟨F, h1, h2, h3⟩ := h.open
 obtain ⟨hb, rfl⟩ := h1
 have hm : Mod (fun j => j = b) w w' := ⟨hg.os, hg.tape, hg.output, hg.size, fun j hj hn => hg.block j hj (fun e => hn (by injection e))⟩
 exact h3 (F' := fun j => j = b) (mapR k e b n' D') hm ⟨ho, rfl⟩ (fun j hj => .inl hj)
end
end Go.Proofs.YtjjpdnpbhdcpbaaGreat
namespace Go.Proofs.YtjjpdnpbhdcpbaaGreat
set_option linter.unusedVariables false
open Go.RowKit
theorem key_str : Maps.Keyed Tryz.prog 9 := Maps.string_keyed Tryz.underlying9
theorem zero_bool (w : World) : (zeroValue 4).run Tryz.prog w = .ok (.bool false) w := by kernel_rfl
theorem key_of (s : List UInt8) (h : s.length ≤ maxLen) : keyOf Tryz.prog 9 (.string ⟨s.toArray⟩) = some (.string s) := by
 have hs : (⟨s.toArray⟩ : ByteArray).size ≤ maxLen := by rw [bytes_size]; exact h
 simp [keyOf, Tryz.underlying9, mapKey, hs]
def SeenOk (D : DataW Unit) (S : List (List UInt8)) : Prop := Maps.IsMap D ∧ ∀ s : List UInt8, D.atKey (.string s) (.lit (.bool false)) = .lit (.bool (decide (s ∈ S)))
theorem seen_nil : SeenOk (.map []) [] := ⟨Maps.isMap_empty, fun s => rfl⟩
theorem SeenOk.put {D : DataW Unit} {S : List (List UInt8)} (h : SeenOk D S) (k : List UInt8) : SeenOk (D.put (.string k) (.lit (.bool true))) (k :: S) := by
 refine ⟨h.1.put _ _, fun s => ?_⟩
 by_cases e : s = k
 ·subst e
  rw [Maps.atKey_put_same h.1 (by simp [WideAt.IsKeyLit])]
  simp
 ·have hne : Lit.string s ≠ Lit.string k := fun q => e (by injection q)
  rw [Maps.atKey_put_other hne, h.2 s]
  simp [e]
theorem seen_look {w : World} {D : DataW Unit} {S : List (List UInt8)} {b n : Nat} (h : w.ownsMap Tryz.prog 9 (plainElem Tryz.prog 4) b n D) (hf : SeenOk D S) (k : List UInt8) (hk : k.length ≤ maxLen) :
 (Instr.lookup 100 (.map (some b)) (.string ⟨k.toArray⟩) false).run Tryz.prog w = .ok (.bool (decide (k ∈ S))) w := by
 obtain ⟨v, ps, hrun, hv⟩ := h.lookup key_str Tryz.underlying100 (zero_bool w) (plainElem_bool Tryz.underlying4 false) (key := .string ⟨k.toArray⟩) (key_of k hk)
 rw [hf.2 k] at hv
 obtain ⟨c, rfl, hc⟩ := bool_inv Tryz.underlying4 hv
 simp only [Prod.mk.injEq, DataW.lit.injEq, Lit.bool.injEq] at hc
 rw [hrun, ← hc.1]
end Go.Proofs.YtjjpdnpbhdcpbaaGreat
