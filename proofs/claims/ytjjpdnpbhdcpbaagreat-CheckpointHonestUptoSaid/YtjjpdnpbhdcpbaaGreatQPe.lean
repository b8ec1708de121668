/- Lemmas and contracts on what the walks need, several small texts in one. Conditions: as each theorem states. -/
import Derived.Test.YtjjpdnpbhdcpbaaGreatQCkO
import Derived.Test.YtjjpdnpbhdcpbaaGreatQCkJ
import Derived.Test.YtjjpdnpbhdcpbaaGreatQPc
import Derived.Test.YtjjpdnpbhdcpbaaGreatQMkB
import Derived.Test.YtjjpdnpbhdcpbaaGreatQBase
import Derived.Deep.AppendLies
import Derived.Deep.RegionLaw
import Derived.Test.YtjjpdnpbhdcpbaaGreatQPd
import Derived.Test.YtjjpdnpbhdcpbaaGreatQShaB
namespace Go.Proofs.YtjjpdnpbhdcpbaaGreat
set_option linter.unusedVariables false
open Go.RowKit Go.Shelf
attribute [local go_sem] Oper.semAt_some
structure CkV where
 o : Sg.Str
 z : Int
 r : Sg.Str
 i : Int
 A : Option Addr
 C : List Sg.Str
 a : Nat
 B : Option Addr
 T : List Sg.Str
 b : Nat
 X : Option Addr
 L : List SgRow
 c : Nat
def CkV.ok (w : World) (x : CkV) : Prop := Rd w x.A (strs x.C) ∧ Rd w x.B (strs x.T) ∧ x.C.length ≤ x.a ∧ x.a ≤ maxLen ∧ x.T.length ≤ x.b ∧ x.b ≤ maxLen ∧ RowsR w x.X x.L ∧ x.L.length ≤ x.c ∧ x.c ≤ maxLen
theorem CkV.ok.below {w w' : World} {x : CkV} (h : CkV.ok w x) (hb : Below w.heap.size w w') : CkV.ok w' x := ⟨h.1.below hb, h.2.1.below hb, h.2.2.1, h.2.2.2.1, h.2.2.2.2.1, h.2.2.2.2.2.1, h.2.2.2.2.2.2.1.below hb, h.2.2.2.2.2.2.2⟩
def sameV (x y : CkV) : Bool := ckSame x.o x.z x.r x.i x.C x.T x.L y.o y.z y.r y.i y.C y.T y.L
theorem sameV_spec (x y : CkV) (w : World) (hx : CkV.ok w x) (hy : CkV.ok w y) :
 Calls Tryz.prog 18 #[.agg #[.string ⟨x.o.toArray⟩, .int .i64 x.z, .string ⟨x.r.toArray⟩, .int .i64 x.i, .slice x.A x.C.length x.a, .slice x.B x.T.length x.b, .slice x.X x.L.length x.c], .agg #[.string ⟨y.o.toArray⟩, .int .i64 y.z, .string ⟨y.r.toArray⟩, .int .i64 y.i, .slice y.A y.C.length y.a, .slice y.B y.T.length y.b, .slice y.X y.L.length y.c]] w fun e w' => e = .returned (.bool (sameV x y)) ∧ Below w.heap.size w w' := by
 obtain ⟨x1, x2, x3, x4, x5, x6, x7, x8, x9⟩ := hx
 obtain ⟨y1, y2, y3, y4, y5, y6, y7, y8, y9⟩ := hy
 exact same_spec x.o x.z x.r x.i x.A x.B x.C x.T x.a x.b x.X x.L x.c y.o y.z y.r y.i y.A y.B y.C y.T y.a y.b y.X y.L y.c w ⟨x1, x2, Nat.le_trans x3 x4, Nat.le_trans x5 x6⟩ ⟨y1, y2, Nat.le_trans y3 y4, Nat.le_trans y5 y6⟩ x7 y7 (Nat.le_trans x8 x9) (Nat.le_trans y8 y9)
end Go.Proofs.YtjjpdnpbhdcpbaaGreat
namespace Go.Proofs.YtjjpdnpbhdcpbaaGreat
set_option linter.unusedVariables false
open Go.RowKit Go.Shelf
def stripR (x : SgRow) : SgRow := ⟨x.key, x.i, none, x.C, 0, none, x.T, 0⟩
def rowOf (k : Sg.Str) (g : Int × List Sg.Str × List Sg.Str) : SgRow := ⟨k, g.1, none, g.2.1, 0, none, g.2.2, 0⟩
def ckP (o : Sg.Str) (z : Int) (r : Sg.Str) (i : Int) (C T : List Sg.Str) (L : List SgRow) : CkV := ⟨o, z, r, i, none, C, 0, none, T, 0, none, L, 0⟩
def CkV.strip (x : CkV) : CkV := ckP x.o x.z x.r x.i x.C x.T (x.L.map stripR)
def noCk : CkV := ckP [] 0 [] 0 [] [] []
theorem ckEncL_strip : ∀ (L : List SgRow) (acc : Sg.Str), ckEncL acc (L.map stripR) = ckEncL acc L
 | [], _ => rfl
 | x :: L, acc => by
   show (if okB x.i x.C x.T = true then (if x.key.length ≤ 65536 then ckEncL (acc ++ (Cd.text x.key ++ encS x.i x.C x.T)) (L.map stripR) else ([], 1)) else ([], 1)) = (if okB x.i x.C x.T = true then (if x.key.length ≤ 65536 then ckEncL (acc ++ (Cd.text x.key ++ encS x.i x.C x.T)) L else ([], 1)) else ([], 1))
   rw [ckEncL_strip L]
theorem ckEnc_strip (o : Sg.Str) (z : Int) (r : Sg.Str) (i : Int) (C T : List Sg.Str) (L : List SgRow) : ckEnc o z r i C T (L.map stripR) = ckEnc o z r i C T L := by
 unfold ckEnc
 rw [ckEncL_strip, List.length_map]
def ckRows (s : Sg.Str) : Nat → List SgRow → Nat → Int → List SgRow × Nat × Int
 | 0, acc, at_, e => (acc, at_, e)
 | n + 1, acc, at_, e => if e = 0 then
     ckRows s n (acc ++ [rowOf (textR s at_ e).1 (sgnR s (textR s at_ e).2.1 (textR s at_ e).2.2).1]) (sgnR s (textR s at_ e).2.1 (textR s at_ e).2.2).2.1 (sgnR s (textR s at_ e).2.1 (textR s at_ e).2.2).2.2
   else (acc, at_, e)
def ckH1 (s : Sg.Str) := textR s 0 0
def ckH2 (s : Sg.Str) := uintR s (ckH1 s).2.1 (ckH1 s).2.2
def ckH3 (s : Sg.Str) := textR s (ckH2 s).2.1 (ckH2 s).2.2
def ckH4 (s : Sg.Str) := sgnR s (ckH3 s).2.1 (ckH3 s).2.2
def ckH5 (s : Sg.Str) := countR s (ckH4 s).2.1 (ckH4 s).2.2 1024
def ckH6 (s : Sg.Str) := ckRows s (ckH5 s).1.toNat [] (ckH5 s).2.1 (ckH5 s).2.2
def ckDec (s : Sg.Str) : CkV × Int :=
 if (ckEnc (ckH1 s).1 (ckH2 s).1 (ckH3 s).1 (ckH4 s).1.1 (ckH4 s).1.2.1 (ckH4 s).1.2.2 (ckH6 s).1).2 = 0 then
  (if endR s (ckH6 s).2.1 (ckH6 s).2.2 = 0 then (ckP (ckH1 s).1 (ckH2 s).1 (ckH3 s).1 (ckH4 s).1.1 (ckH4 s).1.2.1 (ckH4 s).1.2.2 (ckH6 s).1, 0) else (noCk, 9)) else (noCk, 9)
def rowsB (L : List SgRow) : Sg.Str := L.flatMap fun x => Cd.text x.key ++ encS x.i x.C x.T
def RowEnc (x : SgRow) : Prop := okB x.i x.C x.T = true ∧ x.key.length ≤ 65536 ∧ x.i < 9223372036854775808
theorem rowsB_cons (x : SgRow) (L : List SgRow) : rowsB (x :: L) = Cd.text x.key ++ encS x.i x.C x.T ++ rowsB L := rfl
theorem ckEncL_ok : ∀ (L : List SgRow) (acc : Sg.Str), (∀ x ∈ L, RowEnc x) → ckEncL acc L = (acc ++ rowsB L, 0)
 | [], acc, _ => by
   show (acc, (0 : Int)) = (acc ++ [], 0)
   rw [List.append_nil]
 | x :: L, acc, h => by
   obtain ⟨h1, h2, _⟩ := h x (List.mem_cons_self ..)
   show (if okB x.i x.C x.T = true then (if x.key.length ≤ 65536 then ckEncL (acc ++ (Cd.text x.key ++ encS x.i x.C x.T)) L else ([], 1)) else ([], 1)) = _
   rw [if_pos h1, if_pos h2, ckEncL_ok L _ (fun y hy => h y (List.mem_cons_of_mem _ hy)), rowsB_cons]
   simp only [List.append_assoc]
theorem textR_at (p q k : Sg.Str) (h : k.length < 9223372036854775808) : textR (p ++ (Cd.text k ++ q)) p.length 0 = (k, p.length + (Cd.text k).length, 0) := by
 unfold textR
 rw [if_neg (by simp), Cd.readText_at p q k h]
theorem uintR_at (p q : Sg.Str) (n : Nat) (h : n < 9223372036854775808) : uintR (p ++ (Cd.uns n ++ q)) p.length 0 = ((n : Int), p.length + (Cd.uns n).length, 0) := by
 unfold uintR
 rw [if_neg (by simp), Cd.readUint_at p q n h]
theorem textsR_at (p q : Sg.Str) (L : List Sg.Str) (h : ∀ s ∈ L, s.length < 9223372036854775808) (hl : L.length < 9223372036854775808) : textsR (p ++ (Cd.texts L ++ q)) p.length 0 = (L, p.length + (Cd.texts L).length, 0) := by
 unfold textsR
 rw [if_neg (by simp), Cd.readTexts_at p q L h hl]
theorem countR_at (p q : Sg.Str) (n : Nat) (h : n ≤ 1024) : countR (p ++ (Cd.uns n ++ q)) p.length 0 1024 = ((n : Int), p.length + (Cd.uns n).length, 0) := by
 unfold countR
 rw [if_neg (by simp), readCount_some (Cd.readUint_at p q n (by omega)) (by omega)]
theorem sgnR_at (p q : Sg.Str) (i : Int) (C T : List Sg.Str) (hi : i < 9223372036854775808) (ho : okB i C T = true) : sgnR (p ++ (encS i C T ++ q)) p.length 0 = ((i, C, T), p.length + (encS i C T).length, 0) := by
 obtain ⟨c1, c2, c3, c4, c5⟩ := okB_parts ho
 have hC : ∀ s ∈ C, s.length < 9223372036854775808 := fun s hs => by rw [(vld_iff C).1 c4 s hs]; decide
 have hT : ∀ s ∈ T, s.length < 9223372036854775808 := fun s hs => by rw [(vld_iff T).1 c5 s hs]; decide
 have hs : p ++ (encS i C T ++ q) = p ++ (Cd.uns i.toNat ++ (Cd.texts C ++ (Cd.texts T ++ q))) := by
  unfold encS
  simp only [List.append_assoc]
 have e1 := uintR_at p (Cd.texts C ++ (Cd.texts T ++ q)) i.toNat (by omega)
 have e2 := textsR_at (p ++ Cd.uns i.toNat) (Cd.texts T ++ q) C hC (by omega)
 have e3 := textsR_at (p ++ Cd.uns i.toNat ++ Cd.texts C) q T hT (by omega)
 simp only [List.append_assoc, List.length_append] at e2 e3
 unfold sgnR
 rw [hs, e1]
 dsimp only
 rw [e2]
 dsimp only
 rw [← Nat.add_assoc] at e3
 rw [e3]
 unfold encS
 simp only [List.length_append]
 rw [Int.toNat_of_nonneg c1]
 simp only [Nat.add_assoc]
theorem ckRows_at : ∀ (L : List SgRow) (p q : Sg.Str) (acc : List SgRow), (∀ x ∈ L, RowEnc x) → ckRows (p ++ (rowsB L ++ q)) L.length acc p.length 0 = (acc ++ L.map stripR, p.length + (rowsB L).length, 0)
 | [], p, q, acc, _ => by
   show (acc, p.length, (0 : Int)) = (acc ++ [], p.length + 0, 0)
   rw [List.append_nil, Nat.add_zero]
 | x :: L, p, q, acc, h => by
   obtain ⟨h1, h2, h3⟩ := h x (List.mem_cons_self ..)
   have hs : p ++ (rowsB (x :: L) ++ q) = p ++ (Cd.text x.key ++ (encS x.i x.C x.T ++ (rowsB L ++ q))) := by
    rw [rowsB_cons]
    simp only [List.append_assoc]
   have e1 := textR_at p (encS x.i x.C x.T ++ (rowsB L ++ q)) x.key (by omega)
   have e2 := sgnR_at (p ++ Cd.text x.key) (rowsB L ++ q) x.i x.C x.T h3 h1
   have ih := ckRows_at L (p ++ Cd.text x.key ++ encS x.i x.C x.T) q (acc ++ [stripR x]) (fun y hy => h y (List.mem_cons_of_mem _ hy))
   simp only [List.append_assoc, List.length_append] at e2 ih
   rw [List.length_cons, hs]
   unfold ckRows
   rw [if_pos rfl, e1]
   dsimp only
   rw [e2]
   dsimp only
   have hx : rowOf x.key (x.i, x.C, x.T) = stripR x := rfl
   rw [hx]
   rw [show p.length + (Cd.text x.key).length + (encS x.i x.C x.T).length = p.length + ((Cd.text x.key).length + (encS x.i x.C x.T).length) by omega, ih, rowsB_cons]
   simp only [List.length_append, List.map_cons, List.append_assoc, List.singleton_append, Nat.add_assoc]
theorem ckEnc_ok (o : Sg.Str) (z : Int) (r : Sg.Str) (i : Int) (C T : List Sg.Str) (L : List SgRow) (h1 : okB i C T = true) (h2 : headB o z r = true) (h3 : L.length ≤ 1024) (h4 : ∀ x ∈ L, RowEnc x) : ckEnc o z r i C T L = (headS o z r ++ (encS i C T ++ (Cd.uns L.length ++ rowsB L)), 0) := by
 unfold ckEnc
 rw [if_pos h1, if_pos h2, if_pos h3, ckEncL_ok L _ h4]
 simp only [List.append_assoc]
theorem ckDec_enc (o : Sg.Str) (z : Int) (r : Sg.Str) (i : Int) (C T : List Sg.Str) (L : List SgRow) (h1 : okB i C T = true) (h2 : headB o z r = true) (h3 : L.length ≤ 1024) (h4 : ∀ x ∈ L, RowEnc x) (hi : i < 9223372036854775808) :
 ckDec (ckEnc o z r i C T L).1 = (ckP o z r i C T (L.map stripR), 0) := by
 have he := ckEnc_ok o z r i C T L h1 h2 h3 h4
 have hs' := ckEnc_strip o z r i C T L
 rw [he] at hs' ⊢
 dsimp only
 obtain ⟨k1, k2, k3, k4, k5⟩ := headB_parts h2
 obtain ⟨s, hs⟩ : ∃ s, headS o z r ++ (encS i C T ++ (Cd.uns L.length ++ rowsB L)) = s := ⟨_, rfl⟩
 rw [hs]
 have e1 : ckH1 s = (o, (Cd.text o).length, 0) := by
  have := textR_at [] (Cd.uns z.toNat ++ (Cd.text r ++ (encS i C T ++ (Cd.uns L.length ++ rowsB L)))) o (by omega)
  rw [List.nil_append, List.length_nil, Nat.zero_add] at this
  rw [← this, ← hs]
  unfold ckH1 headS
  simp only [List.append_assoc]
 have e2 : ckH2 s = (z, (Cd.text o).length + (Cd.uns z.toNat).length, 0) := by
  have := uintR_at (Cd.text o) (Cd.text r ++ (encS i C T ++ (Cd.uns L.length ++ rowsB L))) z.toNat (by omega)
  rw [Int.toNat_of_nonneg k3] at this
  unfold ckH2
  rw [e1, ← this, ← hs]
  unfold headS
  simp only [List.append_assoc]
 have e3 : ckH3 s = (r, (headS o z r).length, 0) := by
  have := textR_at (Cd.text o ++ Cd.uns z.toNat) (encS i C T ++ (Cd.uns L.length ++ rowsB L)) r (by omega)
  rw [List.length_append] at this
  unfold ckH3
  rw [e2]
  dsimp only
  rw [show (headS o z r).length = (Cd.text o).length + (Cd.uns z.toNat).length + (Cd.text r).length from by unfold headS; rw [List.length_append, List.length_append], ← this, ← hs]
  unfold headS
  simp only [List.append_assoc]
 have e4 : ckH4 s = ((i, C, T), (headS o z r).length + (encS i C T).length, 0) := by
  unfold ckH4
  rw [e3, ← sgnR_at (headS o z r) (Cd.uns L.length ++ rowsB L) i C T hi h1, ← hs]
 have e5 : ckH5 s = ((L.length : Int), (headS o z r).length + (encS i C T).length + (Cd.uns L.length).length, 0) := by
  have := countR_at (headS o z r ++ encS i C T) (rowsB L) L.length h3
  rw [List.length_append] at this
  unfold ckH5
  rw [e4]
  dsimp only
  rw [← this, ← hs]
  simp only [List.append_assoc]
 have e6 : ckH6 s = (L.map stripR, (headS o z r).length + (encS i C T).length + (Cd.uns L.length).length + (rowsB L).length, 0) := by
  have := ckRows_at L (headS o z r ++ encS i C T ++ Cd.uns L.length) [] [] h4
  rw [List.length_append, List.length_append, List.append_nil, List.nil_append] at this
  unfold ckH6
  rw [e5]
  dsimp only
  rw [Int.toNat_natCast, ← this, ← hs]
  simp only [List.append_assoc]
 have hlen : s.length = (headS o z r).length + (encS i C T).length + (Cd.uns L.length).length + (rowsB L).length := by
  rw [← hs]
  simp only [List.length_append, Nat.add_assoc]
 unfold ckDec
 rw [e1, e2, e3, e4, e6]
 dsimp only
 rw [if_pos (by rw [hs'])]
 rw [if_pos (by unfold endR; rw [if_neg (fun h => by omega)])]
abbrev SgM : Type := Sg.Str × Int × List Sg.Str × List Sg.Str
def noSgM : SgM := ([], 0, [], [])
def obsS (x : Wit) (c : CkV) : (Int × List Sg.Str × List Sg.Str) × (Sg.Str × Int × Int) × Int := signR x.seed x.h x.n (Sg.dgs (5 :: headS c.o c.z c.r))
def obsR (x : Wit) (c : CkV) (P : List Sg.Str) : Wit × SgM × Int :=
 if ckB 4 x.key c.o c.z c.r c.i c.C c.T = true then
  (if c.o = x.o then
    (if c.z < x.z then (noWit, noSgM, 8) else
      (if c.z = x.z ∧ ¬ c.r = x.r then (noWit, noSgM, 24) else
        (if extB x.z c.z x.r c.r P = true then
          (if (obsS x c).2.2 = 0 then (⟨x.o, x.key, (obsS x c).2.1.1, (obsS x c).2.1.2.1, (obsS x c).2.1.2.2, c.o, c.z, c.r⟩, ((pubR x.seed x.h).1, (obsS x c).1), 0) else (noWit, noSgM, (obsS x c).2.2))
        else (noWit, noSgM, 18))))
  else (noWit, noSgM, 1))
 else (noWit, noSgM, 1)
def cmpR (ra : Sg.Str) (n : Int) (rb : Sg.Str) (zb : Int) (L : List Sg.Str) : (Sg.Str × List Sg.Str) × Bool :=
 if zb = (L.length : Int) then
  (if 0 ≤ n then
    (if n ≤ (L.length : Int) then
      (if mRoot L = [] then (([], []), false) else
        (if mRoot L = rb then
          (if mRoot (L.take n.toNat) = ra then (([], []), false) else ((mRoot (L.take n.toNat), (mCon L n).1), true))
        else (([], []), false)))
    else (([], []), false))
  else (([], []), false))
 else (([], []), false)
theorem mRoot_nil (L : List Sg.Str) : mRoot L = [] ↔ (decide (L.length ≤ 4096) && vld L) = false := by
 unfold mRoot
 cases h : (decide (L.length ≤ 4096) && vld L) with
 | true =>
   rw [if_pos rfl]
   have h2 : vld L = true := by
    rw [Bool.and_eq_true] at h
    exact h.2
   have h3 := Mk.rootD ((vld_iff L).1 h2)
   exact ⟨fun e => by (rw [e] at h3; cases h3), fun e => by cases e⟩
 | false => exact ⟨fun _ => rfl, fun _ => by rw [if_neg (by decide)]⟩
theorem mCon_good (L : List Sg.Str) (n : Int) (h : ¬ mRoot L = []) (h0 : 0 ≤ n) (h1 : n ≤ (L.length : Int)) : (mCon L n).2 = 0 := by
 have h2 : (decide (L.length ≤ 4096) && vld L) = true := by
  cases h3 : (decide (L.length ≤ 4096) && vld L) with
  | true => rfl
  | false => exact absurd ((mRoot_nil L).2 h3) h
 unfold mCon
 rw [if_pos h2, if_neg (by omega)]
 split <;> rfl
def sgC (seed : Sg.Str) (q : Nat) (d : List Nat) : List Sg.Str := Sg.chn seed q d 67
def sgT (seed : Sg.Str) (m q : Nat) : List Sg.Str := Mk.incl (Sg.lvs seed (2 ^ m)) q
theorem ck_sign (seed : Sg.Str) (m q : Nat) (o : Sg.Str) (z : Int) (r : Sg.Str) (hs : seed.length = 32) (hm : m ≤ 6) (hq : q < 2 ^ m) (hh : headB o z r = true) :
 ckSgR seed (m : Int) (q : Int) o z r = ((o, z, r), (((q : Int), sgC seed q (Sg.dgs (4 :: headS o z r)), sgT seed m q), (seed, (m : Int), (q : Int) + 1), 0)) := by
 unfold ckSgR
 rw [if_pos hh, signR_ok seed m q _ hs hm hq]
 exact if_pos rfl
theorem ck_ver (p : UInt8) (seed : Sg.Str) (m q : Nat) (o : Sg.Str) (z : Int) (r : Sg.Str) (hm : m ≤ 6) (hq : q < 2 ^ m) (hh : headB o z r = true) :
 ckB p (pubK seed m) o z r (q : Int) (sgC seed q (Sg.dgs (p :: headS o z r))) (sgT seed m q) = true := by
 unfold ckB
 rw [if_pos hh]
 exact accepts seed m q _ hm hq (Sg.dgs_le _)
theorem ck_nokey (p : UInt8) (o : Sg.Str) (z : Int) (r : Sg.Str) (i : Int) (C T : List Sg.Str) : ckB p [] o z r i C T = false := by
 unfold ckB
 split
 ·unfold verB
  rw [if_neg (by decide)]
 ·rfl
theorem ck_rot (seed : Sg.Str) (m q : Nat) (pub : Sg.Str) (hs : seed.length = 32) (hm : m ≤ 6) (hq : q < 2 ^ m) (hp : vpB pub = true) :
 ckRtR seed (m : Int) (q : Int) pub = (pub, (((q : Int), sgC seed q (Sg.dgs (6 :: pub)), sgT seed m q), (seed, (m : Int), (q : Int) + 1), 0)) := by
 unfold ckRtR
 rw [if_pos hp, signR_ok seed m q _ hs hm hq]
 exact if_pos rfl
theorem vpB_pub (seed : Sg.Str) (m : Nat) (hm : m ≤ 6) : vpB (pubK seed m) = true := by
 unfold vpB
 rw [if_pos (pubK_len seed m), pubK_last seed m hm]
 exact decide_eq_true hm
theorem nw_ok (o key seed : Sg.Str) (m : Nat) (h1 : 1 ≤ o.length) (h2 : o.length ≤ 64) (hk : vpB key = true) (hs : seed.length = 32) (hm : m ≤ 6) : nwR o key seed (m : Int) 0 = (⟨o, key, seed, (m : Int), 0, o, 0, Sh.sha []⟩, 0) := by
 have hv := validB_ok seed m 0 hs hm (Nat.zero_le _)
 unfold nwR
 rw [if_pos h1, if_pos h2, if_pos hk]
 exact if_pos hv
theorem obs_ok (x : Wit) (c : CkV) (P : List Sg.Str) (m q : Nat) (h1 : ckB 4 x.key c.o c.z c.r c.i c.C c.T = true) (h2 : c.o = x.o) (h3 : x.z ≤ c.z) (h4 : c.z = x.z → c.r = x.r) (h5 : extB x.z c.z x.r c.r P = true) (hs : x.seed.length = 32) (hm : m ≤ 6) (hq : q < 2 ^ m) (e1 : x.h = (m : Int)) (e2 : x.n = (q : Int)) :
 obsR x c P = (⟨x.o, x.key, x.seed, (m : Int), (q : Int) + 1, c.o, c.z, c.r⟩, (pubK x.seed m, (q : Int), sgC x.seed q (Sg.dgs (5 :: headS c.o c.z c.r)), sgT x.seed m q), 0) := by
 have hS : obsS x c = (((q : Int), sgC x.seed q (Sg.dgs (5 :: headS c.o c.z c.r)), sgT x.seed m q), (x.seed, (m : Int), (q : Int) + 1), 0) := by
  unfold obsS
  rw [e1, e2]
  exact signR_ok x.seed m q _ hs hm hq
 unfold obsR
 rw [if_pos h1, if_pos h2, if_neg (by omega), if_neg (fun h => h.2 (h4 h.1)), if_pos h5, hS, e1, pubR_ok x.seed m hs hm]
 exact if_pos rfl
theorem obs_less (x : Wit) (c : CkV) (P : List Sg.Str) (h1 : ckB 4 x.key c.o c.z c.r c.i c.C c.T = true) (h2 : c.o = x.o) (h3 : c.z < x.z) : obsR x c P = (noWit, noSgM, 8) := by
 unfold obsR
 rw [if_pos h1, if_pos h2, if_pos h3]
theorem cmp_none (L : List Sg.Str) (n : Nat) (rb : Sg.Str) (zb : Int) (hL : Mk.AllD L) (hl : L.length ≤ 4096) : cmpR (Mk.root (L.take n)) (n : Int) rb zb L = (([], []), false) := by
 unfold cmpR
 repeat' split
 all_goals first | rfl | skip
 rename_i hne
 rw [Int.toNat_natCast] at hne
 exact absurd (mRoot_ok (Mk.AllD.take hL n) (by rw [List.length_take]; omega)) hne
def sd (b : UInt8) : Sg.Str := List.replicate 32 b
theorem sd_len (b : UInt8) : (sd b).length = 32 := List.length_replicate
def pk1 (b : UInt8) : Sg.Str := pubK (sd b) 1
def rotRow (a b : UInt8) : SgRow := rowOf (pk1 b) ((0 : Nat), sgC (sd a) 0 (Sg.dgs (6 :: pk1 b)), sgT (sd a) 1 0)
theorem rot_acc (a b : UInt8) : verB (pk1 a) (Sg.dgs (6 :: pk1 b)) (rotRow a b).i (rotRow a b).C (rotRow a b).T = true :=
 accepts (sd a) 1 0 _ (by decide) (by decide) (Sg.dgs_le _)
theorem St.drop {lo : Nat} {w0 w : World} : ∀ {Rs Qs : List Res}, St lo w0 w (Rs ++ Qs) → St lo w0 w Qs
 | [], _, h => h
 | _ :: Rs, _, h => St.drop (Rs := Rs) h.tail
def rowRes (x : SgRow) : List Res := [ownR 9 1 (.slice x.A x.C.length x.a) x.C.length (strs x.C), ownR 9 1 (.slice x.B x.T.length x.b) x.T.length (strs x.T)]
def rowsRes (L : List SgRow) : List Res := L.flatMap rowRes
theorem rowsRes_snoc (L : List SgRow) (x : SgRow) : rowsRes (L ++ [x]) = rowsRes L ++ rowRes x := by
 unfold rowsRes
 rw [List.flatMap_append, List.flatMap_singleton]
theorem flatC_snoc (L : List SgRow) (x : SgRow) : (L ++ [x]).flatMap rowC = L.flatMap rowC ++ rowC x := by
 rw [List.flatMap_append, List.flatMap_singleton]
def RowCap (x : SgRow) : Prop := x.C.length ≤ x.a ∧ x.a ≤ maxLen ∧ x.T.length ≤ x.b ∧ x.b ≤ maxLen
theorem St.rowsOk {lo : Nat} {w0 w : World} {Rs : List Res} : ∀ {L : List SgRow}, St lo w0 w (rowsRes L ++ Rs) → (∀ x ∈ L, RowCap x) → ∀ x ∈ L, RowOk w x
 | [], _, _, x, hx => by cases hx
 | y :: L, h, hc, x, hx => by
   have h' : St lo w0 w (ownR 9 1 (.slice y.A y.C.length y.a) y.C.length (strs y.C) :: ownR 9 1 (.slice y.B y.T.length y.b) y.T.length (strs y.T) :: (rowsRes L ++ Rs)) := h
   rcases List.mem_cons.1 hx with rfl | hx
   ·obtain ⟨c1, c2, c3, c4⟩ := hc x (List.mem_cons_self ..)
    exact ⟨Rd.of_own h'.own, Rd.of_own h'.tail.own, c1, c2, c3, c4⟩
   ·exact St.rowsOk h'.tail.tail (fun z hz => hc z (List.mem_cons_of_mem _ hz)) x hx
def rowsG (L : List SgRow) : Res := groupR (rowsRes L)
theorem St.rows0 {lo : Nat} {w0 w : World} {Rs : List Res} (h : St lo w0 w Rs) : St lo w0 w (rowsG [] :: Rs) := St.group (Ps := []) h
theorem St.rows1 {lo : Nat} {w0 w : World} {Rs : List Res} {L : List SgRow} (x : SgRow) (h : St lo w0 w (rowsG L :: ownR 9 1 (.slice x.A x.C.length x.a) x.C.length (strs x.C) :: ownR 9 1 (.slice x.B x.T.length x.b) x.T.length (strs x.T) :: Rs)) : St lo w0 w (rowsG (L ++ [x]) :: Rs) := by
 have h1 := St.ungroup h
 have h2 : St lo w0 w (rowsRes (L ++ [x]) ++ Rs) := by
  rw [rowsRes_snoc, List.append_assoc]
  exact h1
 exact St.group h2
theorem St.rowsAll {lo : Nat} {w0 w : World} {Rs : List Res} {L : List SgRow} (h : St lo w0 w (rowsG L :: Rs)) (hc : ∀ x ∈ L, RowCap x) : ∀ x ∈ L, RowOk w x := (St.ungroup h).rowsOk hc
theorem St.rowsR {lo : Nat} {w0 w : World} {Rs : List Res} {e : TypeId} {X : Option Addr} {n c : Nat} {L : List SgRow} (h : St lo w0 w (ownR e 4 (.slice X n c) n (L.flatMap rowC) :: rowsG L :: Rs)) (hc : ∀ x ∈ L, RowCap x) : RowsR w X L :=
 ⟨Rd.of_own h.own, h.tail.rowsAll hc⟩
theorem stepR {lo : Nat} {w0 w : World} {Rs : List Res} {e : TypeId} {v : Value} {n size : Nat} {xs : List Value} {P : Program} {ops : Array Oper} {o : Oper} {a : Act} {K : Act → World → Prop} {Q : Exit → Act → World → Prop} {E : Prop} (t : TypeId) {z : Value} {bytes : Nat} (us : Array Value) {te : TypeId}
 (h : St lo w0 w (ownR e size v n xs :: Rs)) (ht : P.underlying t = some (.slice e)) (hi : (P.info? e).map (fun i => (i.zero, i.size, i.bytes)) = some (some z, size, bytes)) (hzs : z.cells.size = size) (hsz : 0 < size)
 (s x : Operand) (ho : o.op = .call { callee := .builtin .append, args := #[s, x], argTypes := #[t, t] }) (hgd : o.guard = none)
 (hs : a.eval s = v) (hx : a.eval x = .slice (some ⟨w.heap.size, 0, none⟩) 1 1) (hus : us.size = size) (hu : ∀ u ∈ us.toList, u.oneCell' = true) (h63 : n + 1 ≤ maxLen) (hbytes : (n + 1) * bytes ≤ 140737488355328)
 (hk : ∀ g cap w', St lo w0 w' (ownR e size (.slice (some ⟨g, 0, none⟩) (n + 1) cap) (n + 1) (xs ++ us.toList) :: Rs) → K (a.put o.dst (.slice (some ⟨g, 0, none⟩) (n + 1) cap)) w') :
 if Region.wanted o (yielded ops a.tmps) = true then Oper.wp P o a (w.alloc (.cells us te)) K Q else E := by
 rw [if_pos (by unfold Region.wanted; rw [hgd])]
 refine appendS t (h.alloc0 _) ht hi hzs hsz s x ho hs ⟨w.heap.size, 0, none⟩ 1 1 us.toList hx (by simp [hus]) ?_ hu (by decide) h63 hbytes (fun g cap w' r1 _ _ => hk g cap w' r1)
 intro j y hj
 rw [Addr.add_lit, Nat.zero_add]
 refine ((Blk.new w te us).cell j).trans ?_
 simpa using hj
theorem appendRow {lo : Nat} {w0 w : World} {Rs : List Res} {e : TypeId} {v : Value} {n size : Nat} {xs : List Value} {P : Program} {ops : Array Oper} {rest : List Oper} {o : Oper} {a : Act} {Q : Exit → Act → World → Prop} (t : TypeId) {z : Value} {bytes : Nat} (us : Array Value) {te : TypeId}
 (h : St lo w0 w (ownR e size v n xs :: Rs)) (ht : P.underlying t = some (.slice e)) (hi : (P.info? e).map (fun i => (i.zero, i.size, i.bytes)) = some (some z, size, bytes)) (hzs : z.cells.size = size) (hsz : 0 < size)
 (hgd : o.guard = none) (s x : Operand) (ho : o.op = .call { callee := .builtin .append, args := #[s, x], argTypes := #[t, t] })
 (hs : a.eval s = v) (hx : a.eval x = .slice (some ⟨w.heap.size, 0, none⟩) 1 1) (hus : us.size = size) (hu : ∀ u ∈ us.toList, u.oneCell' = true) (h63 : n + 1 ≤ maxLen) (hbytes : (n + 1) * bytes ≤ 140737488355328)
 (hk : ∀ v' w', St lo w0 w' (ownR e size v' (n + 1) (xs ++ us.toList) :: Rs) → wpList P ops Q rest (a.put o.dst v') w') : wpList P ops Q (o :: rest) a (w.alloc (.cells us te)) := by
 refine appendM t (h.alloc0 _) ht hi hzs hsz hgd s x ho hs ⟨w.heap.size, 0, none⟩ 1 1 us.toList hx (by simp [hus]) ?_ hu h63 hbytes hk
 intro j y hj
 rw [Addr.add_lit, Nat.zero_add]
 refine ((Blk.new w te us).cell j).trans ?_
 simpa using hj
end Go.Proofs.YtjjpdnpbhdcpbaaGreat
namespace Go.Proofs.YtjjpdnpbhdcpbaaGreat
set_option linter.unusedVariables false
open Go.RowKit Go.Shelf
attribute [local go_sem] Oper.semAt_some
theorem seed_spec (b : UInt8) (w : World) : Calls Tryz.prog 91 #[.int .u8 (b.toNat : Int)] w fun e w' => e = .returned (.string ⟨(List.replicate 32 b).toArray⟩) ∧ Below w.heap.size w w' := by
 have kr := fun W => repeat_one b 32 W (by decide)
 have hc : (convert 76 9 (.slice (some ⟨w.heap.size, 0, none⟩) 1 1)).run Tryz.prog (w.alloc (.cells #[.int .u8 (b.toNat : Int)] 5)) = .ok (.string ⟨[b].toArray⟩) (w.alloc (.cells #[.int .u8 (b.toNat : Int)] 5)) := conv1 _ _ b _ rfl ((Blk.new w 5 #[.int .u8 (b.toNat : Int)]).cell 0)
 have b0 := (Below.refl _ w).alloc (Nat.le_refl _) (.cells #[.int .u8 (b.toNat : Int)] 5)
 have HB := Lib.hid b0
 clear b0
 go_enter Tryz.func91, Tryz.ntmps91
 go_wp2_with fail
 refine (kr _).mono ?_
 rintro e w1 ⟨rfl, b1⟩
 go_wp2
 go_ret
 exact ⟨rfl, HB.out.trans (b1.mono HB.out.size)⟩
theorem key_spec (b : UInt8) (w : World) : Calls Tryz.prog 48 #[.int .u8 (b.toNat : Int)] w fun e w' => e = .returned (.agg #[.string ⟨(sd b).toArray⟩, .int .i64 1, .int .i64 0]) ∧ Below w.heap.size w w' := by
 have ks := fun W => seed_spec b W
 unfold sd
 generalize List.replicate 32 b = S at ks ⊢
 have h0 := (St.nil w).alloc 23 #[.string ⟨#[]⟩, .int .i64 0, .int .i64 0]
 go_enter Tryz.func48, Tryz.ntmps48
 go_wp2_with fail
 refine (ks _).mono ?_
 rintro e w1 ⟨rfl, b1⟩
 have h1 := h0.under b1
 have d0 := h1.blk.cell 0
 have d1 := h1.blk.cell 1
 have d2 := h1.blk.cell 2
 have f0 := h1.blk.frozen 0
 have f1 := h1.blk.frozen 1
 have f2 := h1.blk.frozen 2
 have H6 := Lib.hid (((h1.set_ 0 (.string ⟨S.toArray⟩)).set_ 1 (.int .i64 1)).set_ 2 (.int .i64 0))
 clear h1 h0 b1 ks
 go_wp2
 refine bodyPost_ret (results_cell_row rfl _ _ _ _ _ _ _ rfl H6.out.blk Tryz.underlying23 rfl size_key) rfl ?_
 exact ⟨rfl, H6.out.below⟩
end Go.Proofs.YtjjpdnpbhdcpbaaGreat
namespace Go.Proofs.YtjjpdnpbhdcpbaaGreat
set_option linter.unusedVariables false
open Go.RowKit Go.Shelf
theorem samB_self (i : Int) (C T : List Sg.Str) : samB i C T i C T = true := by
 unfold samB
 rw [if_pos rfl, if_pos rfl]
 exact decide_eq_true rfl
theorem sameC_strip (x y : SgRow) (h : stripR x = stripR y) : sameC x y = true := by
 obtain ⟨kx, i, A, C, a, B, T, b⟩ := x
 obtain ⟨ky, j, A', D, a', B', U, b'⟩ := y
 simp only [stripR, SgRow.mk.injEq] at h
 obtain ⟨rfl, rfl, _, rfl, _, _, rfl, _⟩ := h
 unfold sameC
 rw [beq_self_eq_true, samB_self]
 rfl
theorem sameL_strip : ∀ (L M : List SgRow), L.map stripR = M.map stripR → sameL L M = true
 | [], [], _ => rfl
 | [], y :: M, h => by cases h
 | x :: L, [], h => by cases h
 | x :: L, y :: M, h => by
   rw [List.map_cons, List.map_cons, List.cons.injEq] at h
   show (sameC x y && sameL L M) = true
   rw [sameC_strip x y h.1, sameL_strip L M h.2]
   rfl
theorem sameV_strip (x y : CkV) (h : x.strip = y.strip) : sameV x y = true := by
 unfold CkV.strip ckP at h
 simp only [CkV.mk.injEq] at h
 obtain ⟨h1, h2, h3, h4, _, h5, _, _, h6, _, _, h7, _⟩ := h
 unfold sameV ckSame
 rw [if_pos h1, if_pos h2, if_pos h3, h4, h5, h6, samB_self, sameL_strip _ _ h7]
 rfl
abbrev rtn (L : List Sg.Str) (n : Nat) : Sg.Str := Mk.root (L.take n)
theorem rtn_len {L : List Sg.Str} (hL : Mk.AllD L) (n : Nat) : (rtn L n).length = 32 := Mk.rootD (Mk.AllD.take hL n)
def lg : Sg.Str := [108, 111, 103]
theorem head_log {L : List Sg.Str} (hL : Mk.AllD L) (n : Nat) (hn : n ≤ 4096) : headB lg (n : Int) (rtn L n) = true := by
 unfold headB
 rw [rtn_len hL n]
 simp only [Bool.and_eq_true, decide_eq_true_eq]
 exact ⟨by decide, by decide, by omega, by omega, trivial⟩
theorem ext_log {L : List Sg.Str} (hL : Mk.AllD L) (hl : L.length ≤ 4096) (m n : Nat) (hm : m ≤ n) (hn : n ≤ L.length) : extB (m : Int) (n : Int) (rtn L m) (rtn L n) (mCon (L.take n) (m : Int)).1 = true := by
 have hT : Mk.AllD (L.take n) := Mk.AllD.take hL n
 have hlen : (L.take n).length = n := by rw [List.length_take]; omega
 have hll : (L.take n).length ≤ 4096 := by omega
 have htt : (L.take n).take m = L.take m := by rw [List.take_take, Nat.min_eq_left hm]
 cases m with
 | zero =>
   have h := extB_zero hT hll
   rw [hlen] at h
   have h0 : rtn L 0 = Sh.sha [] := Mk.root_nil
   rw [h0]
   have hc := mCon_zero hT hll
   rw [show ((0 : Nat) : Int) = 0 from rfl, hc]
   exact h
 | succ m =>
   have h := extB_ok hT hll (m + 1) (by omega) (by omega)
   rw [hlen, htt] at h
   rw [mCon_ok hT hll (m + 1) (by omega) (by omega)]
   exact h
theorem cons32 (a b c : Sg.Str) : Mk.cons [a, b, c] 2 true = [c] := by
 have hs : Mk.split ([a, b, c] : List Mk.Str).length = 2 := Mk.split_unique (show 2 ≤ 3 by decide) 1 rfl (show 2 < 3 by decide) (show 3 ≤ 2 * 2 by decide)
 rw [Mk.cons_left _ 2 true (by simp) (by simp) (by rw [hs]; exact Nat.le_refl 2), hs]
 show Mk.cons [a, b] ([a, b] : List Mk.Str).length true ++ [Mk.root [c]] = [c]
 rw [Mk.cons_whole, if_pos rfl, Mk.root_one]
 rfl
theorem chk_noroot (va vb : Bool) (o1 : Sg.Str) (z1 : Int) (r1 o2 : Sg.Str) (z2 : Int) (r2 : Sg.Str) (P : List Sg.Str) : chkB va vb o1 z1 r1 o2 z2 r2 [] P = false := by
 have h : extB z1 z2 [] r2 P = false := extB_bad (by unfold extBad; simp)
 unfold chkB
 rw [h]
 simp
theorem cnt_one (o : Sg.Str) (z : Int) (r : Sg.Str) (x : SgRow) (hh : headB o z r = true) (hv : verB x.key (Sg.dgs (5 :: headS o z r)) x.i x.C x.T = true) : cntB o z r x.key [x] = true := by
 unfold cntB hitB
 rw [List.any_cons, hh, hv, beq_self_eq_true]
 rfl
theorem cos_one (o : Sg.Str) (z : Int) (r : Sg.Str) (x : SgRow) (hh : headB o z r = true) (hv : verB x.key (Sg.dgs (5 :: headS o z r)) x.i x.C x.T = true) : cosN o z r [x] [] [x.key] = 1 := by
 unfold cosN
 rw [if_neg (by simp), cnt_one o z r x hh hv, if_pos rfl]
 rfl
theorem sg_okB (seed : Sg.Str) (m q : Nat) (d : List Nat) (hm : m ≤ 6) : okB (q : Int) (sgC seed q d) (sgT seed m q) = true := okB_sign seed m q d hm
end Go.Proofs.YtjjpdnpbhdcpbaaGreat
namespace Go.Proofs.YtjjpdnpbhdcpbaaGreat
set_option linter.unusedVariables false
open Go.RowKit Go.Shelf
attribute [local go_sem] Oper.semAt_some
theorem sgnR_lt {s : Sg.Str} {at_ : Nat} {e : Int} (h : at_ ≤ s.length) : (sgnR s at_ e).1.1 < 9223372036854775808 := uintR_lt _ _ _ h
end Go.Proofs.YtjjpdnpbhdcpbaaGreat
