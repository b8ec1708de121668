/-
  Chains and leaves of keys in words, for digests in figures. Conditions: numbers below 128.
-/
import Derived.Test.YtnlpakalcckaiaaSgMath
import Derived.Test.YtnlpakalcckaiaaShaB
import Derived.Test.YtnlpakalcckaiaaCdA
import Derived.KernelRfl
namespace Go.Proofs.Ytnlpakalcckaiaa.Sh
set_option linter.unusedVariables false

/-- a word's bytes -/
def W4 (x : Nat) : Nat := word (UInt8.ofNat (x / 16777216)).toNat (UInt8.ofNat (x / 65536)).toNat (UInt8.ofNat (x / 256)).toNat (UInt8.ofNat x).toNat
theorem W4_eq (x : Nat) (h : x < 4294967296) : W4 x = x := by
  unfold W4 word
  simp only [UInt8.toNat_ofNat']
  omega
/-- a word that a byte moved on -/
def W5 (p x : Nat) : Nat := word (UInt8.ofNat p).toNat (UInt8.ofNat (x / 16777216)).toNat (UInt8.ofNat (x / 65536)).toNat (UInt8.ofNat (x / 256)).toNat
theorem W5_eq (p x : Nat) (h : x < 4294967296) : W5 p x = Nat.add (Nat.mul (Nat.mod p 256) 16777216) (Nat.div x 256) := by
  unfold W5 word
  simp only [UInt8.toNat_ofNat']
  show _ = p % 256 * 16777216 + x / 256
  omega
/-- the state behind one block -/
noncomputable def blk1 (s : W8) (w0 w1 w2 w3 w4 w5 w6 w7 w8 w9 w10 w11 w12 w13 w14 w15 : Nat) : W8 :=
  fblock (fun a b c d e f g h => ⟨a, b, c, d, e, f, g, h⟩) s.a s.b s.c s.d s.e s.f s.g s.h w0 w1 w2 w3 w4 w5 w6 w7 w8 w9 w10 w11 w12 w13 w14 w15
theorem blk1_eq (s : W8) (hs : s.Ok) (b : Str) (w0 w1 w2 w3 w4 w5 w6 w7 w8 w9 w10 w11 w12 w13 w14 w15 : Nat) (hw : words b 16 = [w0, w1, w2, w3, w4, w5, w6, w7, w8, w9, w10, w11, w12, w13, w14, w15]) :
    block s b = blk1 s w0 w1 w2 w3 w4 w5 w6 w7 w8 w9 w10 w11 w12 w13 w14 w15 := by
  unfold blk1
  rw [fblock_eq _ s hs b _ _ _ _ _ _ _ _ _ _ _ _ _ _ _ _ hw]
/-- what follows is called with that state's words -/
theorem fblock_blk {α : Type} (K : Nat → Nat → Nat → Nat → Nat → Nat → Nat → Nat → α) (s : W8) (hs : s.Ok) (b : Str) (w0 w1 w2 w3 w4 w5 w6 w7 w8 w9 w10 w11 w12 w13 w14 w15 : Nat) (hw : words b 16 = [w0, w1, w2, w3, w4, w5, w6, w7, w8, w9, w10, w11, w12, w13, w14, w15]) :
    fblock K s.a s.b s.c s.d s.e s.f s.g s.h w0 w1 w2 w3 w4 w5 w6 w7 w8 w9 w10 w11 w12 w13 w14 w15 = (fun r : W8 => K r.a r.b r.c r.d r.e r.f r.g r.h) (block s b) := by
  rw [fblock_eq _ s hs b _ _ _ _ _ _ _ _ _ _ _ _ _ _ _ _ hw]
theorem sha_block (m : Str) (hl : (pad m).length = 64) : sha m = out (block iv (pad m)) := by
  unfold sha
  rw [hl]
  show out (block iv (((pad m).drop (64 * 0)).take 64)) = _
  rw [Nat.mul_zero, List.drop_zero, List.take_of_length_le (by omega)]
theorem block_ok (s : W8) (b : Str) : (block s b).Ok := add8_ok _ _
theorem pad_of (m : Str) (n z : Nat) (hl : m.length = n) (hz : zeros n = z) : pad m = m ++ [128] ++ List.replicate z 0 ++ be8 (8 * n) := by
  unfold pad
  rw [hl, hz]
theorem out_len (s : W8) : (out s).length = 32 := rfl
theorem out_eq (s : W8) : out s = [UInt8.ofNat (s.a / 16777216), UInt8.ofNat (s.a / 65536), UInt8.ofNat (s.a / 256), UInt8.ofNat s.a, UInt8.ofNat (s.b / 16777216), UInt8.ofNat (s.b / 65536), UInt8.ofNat (s.b / 256), UInt8.ofNat s.b, UInt8.ofNat (s.c / 16777216), UInt8.ofNat (s.c / 65536), UInt8.ofNat (s.c / 256), UInt8.ofNat s.c, UInt8.ofNat (s.d / 16777216), UInt8.ofNat (s.d / 65536), UInt8.ofNat (s.d / 256), UInt8.ofNat s.d, UInt8.ofNat (s.e / 16777216), UInt8.ofNat (s.e / 65536), UInt8.ofNat (s.e / 256), UInt8.ofNat s.e, UInt8.ofNat (s.f / 16777216), UInt8.ofNat (s.f / 65536), UInt8.ofNat (s.f / 256), UInt8.ofNat s.f, UInt8.ofNat (s.g / 16777216), UInt8.ofNat (s.g / 65536), UInt8.ofNat (s.g / 256), UInt8.ofNat s.g, UInt8.ofNat (s.h / 16777216), UInt8.ofNat (s.h / 65536), UInt8.ofNat (s.h / 256), UInt8.ofNat s.h] := rfl
/-- the words behind a message's last byte -/
def tl (n : Nat) : List Nat := words ([128, 0, 0, 0] ++ List.replicate (4 * n) 0) (n + 1)
def e8 (n : Nat) : List Nat := [word (UInt8.ofNat (n / 72057594037927936)).toNat (UInt8.ofNat (n / 281474976710656)).toNat (UInt8.ofNat (n / 1099511627776)).toNat (UInt8.ofNat (n / 4294967296)).toNat, word (UInt8.ofNat (n / 16777216)).toNat (UInt8.ofNat (n / 65536)).toNat (UInt8.ofNat (n / 256)).toNat (UInt8.ofNat n).toNat]
def w0000 : Nat := word (0 : UInt8).toNat (0 : UInt8).toNat (0 : UInt8).toNat (0 : UInt8).toNat
def w8000 : Nat := word (128 : UInt8).toNat (0 : UInt8).toNat (0 : UInt8).toNat (0 : UInt8).toNat
theorem w0000_eq : w0000 = 0 := by decide
theorem w8000_eq : w8000 = 2147483648 := by decide
theorem words36 (s : W8) (hs : s.Ok) (x i c p : UInt8) : words (pad ([x, i, c, p] ++ out s)) 16 = [word x.toNat i.toNat c.toNat p.toNat, s.a, s.b, s.c, s.d, s.e, s.f, s.g, s.h, 2147483648, 0, 0, 0, 0, 0, 288] := by
  have h : words (pad ([x, i, c, p] ++ out s)) 16 = [word x.toNat i.toNat c.toNat p.toNat, W4 s.a, W4 s.b, W4 s.c, W4 s.d, W4 s.e, W4 s.f, W4 s.g, W4 s.h, w8000, w0000, w0000, w0000, w0000] ++ e8 (8 * 36) := by
    rw [pad_of _ 36 19 rfl (by decide), out_eq]
    generalize 8 * 36 = n
    rfl
  rw [h, W4_eq _ hs.a, W4_eq _ hs.b, W4_eq _ hs.c, W4_eq _ hs.d, W4_eq _ hs.e, W4_eq _ hs.f, W4_eq _ hs.g, W4_eq _ hs.h, w8000_eq, w0000_eq, show e8 (8 * 36) = [0, 288] from by decide]
  rfl
theorem pad36 (s : W8) (x i c p : UInt8) : (pad ([x, i, c, p] ++ out s)).length = 64 := by
  rw [pad_of _ 36 19 rfl (by decide)]
  rfl
theorem ofNat_toNat (n : Nat) (h : n < 128) : (UInt8.ofNat n).toNat = n := by rw [UInt8.toNat_ofNat']; omega
/-- the first word of a step -/
def stW (i c p : Nat) : Nat := Nat.add (Nat.mul (Nat.add (Nat.mul (Nat.add (Nat.mul 3 256) i) 256) c) 256) p
theorem stW_eq (i c p : Nat) (hi : i < 128) (hc : c < 128) (hp : p < 128) : word (3 : UInt8).toNat (UInt8.ofNat i).toNat (UInt8.ofNat c).toNat (UInt8.ofNat p).toNat = stW i c p := by
  rw [ofNat_toNat i hi, ofNat_toNat c hc, ofNat_toNat p hp]
  rfl
theorem uns_small (n : Nat) (h : n < 128) : Cd.uns n = [UInt8.ofNat n] := by
  unfold Cd.uns Cd.unsF
  rw [if_pos h]
theorem stp_msg (i c p : Nat) (hi : i < 128) (hc : c < 128) (hp : p < 128) (x : Str) : Sg.stp i c p x = sha ([3, UInt8.ofNat i, UInt8.ofNat c, UInt8.ofNat p] ++ x) := by
  unfold Sg.stp Sg.nums
  rw [List.map_cons, List.map_cons, List.map_cons, List.map_nil, uns_small i hi, uns_small c hc, uns_small p hp]
  rfl
/-- n steps, in passing style -/
noncomputable def wlkF {α : Type} (K : Nat → Nat → Nat → Nat → Nat → Nat → Nat → Nat → α) (i c : Nat) : Nat → Nat → Nat → Nat → Nat → Nat → Nat → Nat → Nat → Nat → α
  | 0, _, a, b, c', d, e, f, g, h => K a b c' d e f g h
  | n + 1, p, a, b, c', d, e, f, g, h => force (stW i c p) fun w0 => force (Nat.succ p) fun p' => fblock (wlkF K i c n p') iv.a iv.b iv.c iv.d iv.e iv.f iv.g iv.h w0 a b c' d e f g h 2147483648 0 0 0 0 0 288
theorem wlkF_eq (i c : Nat) (hi : i < 128) (hc : c < 128) : ∀ (n p : Nat) (s : W8), s.Ok → p + n ≤ 128 → ∃ t : W8, t.Ok ∧ Sg.wlk i c p n (out s) = out t ∧ ∀ {α : Type} (K : Nat → Nat → Nat → Nat → Nat → Nat → Nat → Nat → α), wlkF K i c n p s.a s.b s.c s.d s.e s.f s.g s.h = K t.a t.b t.c t.d t.e t.f t.g t.h
  | 0, p, s, hs, _ => ⟨s, hs, rfl, fun K => rfl⟩
  | n + 1, p, s, hs, hp => by
    have hw := words36 s hs 3 (UInt8.ofNat i) (UInt8.ofNat c) (UInt8.ofNat p)
    rw [stW_eq i c p hi hc (by omega)] at hw
    obtain ⟨t, ht, h1, h2⟩ := wlkF_eq i c hi hc n (p + 1) (block iv (pad ([3, UInt8.ofNat i, UInt8.ofNat c, UInt8.ofNat p] ++ out s))) (block_ok _ _) (by omega)
    refine ⟨t, ht, ?_, fun K => ?_⟩
    · rw [← h1, show n + 1 = 1 + n from by omega, Sg.wlk_add]
      show Sg.wlk i c (p + 1) n (Sg.stp i c p (out s)) = _
      rw [stp_msg i c p hi hc (by omega), sha_block _ (pad36 s _ _ _ _)]
    · rw [← h2 K]
      show force (stW i c p) (fun w0 => force (Nat.succ p) fun p' => fblock (wlkF K i c n p') iv.a iv.b iv.c iv.d iv.e iv.f iv.g iv.h w0 s.a s.b s.c s.d s.e s.f s.g s.h 2147483648 0 0 0 0 0 288) = _
      rw [force_eq, force_eq, fblock_blk _ iv iv_ok _ _ _ _ _ _ _ _ _ _ _ _ _ _ _ _ _ hw]
/-- the last word of a secret -/
def scW (i c : Nat) : Nat := Nat.add (Nat.mul (Nat.add (Nat.mul (Nat.add (Nat.mul 115 256) i) 256) c) 256) 128
def seedS : Str := List.replicate 32 115
noncomputable def secF {α : Type} (K : Nat → Nat → Nat → Nat → Nat → Nat → Nat → Nat → α) (i c : Nat) : α := force (scW i c) fun w8 => fblock K iv.a iv.b iv.c iv.d iv.e iv.f iv.g iv.h 41120627 1936946035 1936946035 1936946035 1936946035 1936946035 1936946035 1936946035 w8 0 0 0 0 0 0 280
theorem secF_eq (i c : Nat) (hi : i < 128) (hc : c < 128) : ∃ t : W8, t.Ok ∧ Sg.sec seedS i c = out t ∧ ∀ {α : Type} (K : Nat → Nat → Nat → Nat → Nat → Nat → Nat → Nat → α), secF K i c = K t.a t.b t.c t.d t.e t.f t.g t.h := by
  have hm : Sg.sec seedS i c = sha (2 :: (seedS ++ [UInt8.ofNat i, UInt8.ofNat c])) := by
    unfold Sg.sec Sg.nums
    rw [List.map_cons, List.map_cons, List.map_nil, uns_small i hi, uns_small c hc]
    rfl
  have hp : pad (2 :: (seedS ++ [UInt8.ofNat i, UInt8.ofNat c])) = 2 :: (seedS ++ [UInt8.ofNat i, UInt8.ofNat c]) ++ [128] ++ List.replicate 20 0 ++ be8 (8 * 35) := pad_of _ 35 20 rfl (by decide)
  have hw : words (pad (2 :: (seedS ++ [UInt8.ofNat i, UInt8.ofNat c]))) 16 = [41120627, 1936946035, 1936946035, 1936946035, 1936946035, 1936946035, 1936946035, 1936946035, scW i c, 0, 0, 0, 0, 0, 0, 280] := by
    have h : words (pad (2 :: (seedS ++ [UInt8.ofNat i, UInt8.ofNat c]))) 16 = [word (2 : UInt8).toNat (115 : UInt8).toNat (115 : UInt8).toNat (115 : UInt8).toNat] ++ List.replicate 7 (word (115 : UInt8).toNat (115 : UInt8).toNat (115 : UInt8).toNat (115 : UInt8).toNat) ++ [word (115 : UInt8).toNat (UInt8.ofNat i).toNat (UInt8.ofNat c).toNat (128 : UInt8).toNat, w0000, w0000, w0000, w0000, w0000] ++ e8 (8 * 35) := by
      rw [hp]
      generalize 8 * 35 = n
      rfl
    rw [h, ofNat_toNat i hi, ofNat_toNat c hc, w0000_eq, show e8 (8 * 35) = [0, 280] from by decide, show word (2 : UInt8).toNat (115 : UInt8).toNat (115 : UInt8).toNat (115 : UInt8).toNat = 41120627 from by decide, show word (115 : UInt8).toNat (115 : UInt8).toNat (115 : UInt8).toNat (115 : UInt8).toNat = 1936946035 from by decide]
    rfl
  refine ⟨block iv (pad (2 :: (seedS ++ [UInt8.ofNat i, UInt8.ofNat c]))), block_ok _ _, ?_, fun K => ?_⟩
  · rw [hm, sha_block _ (by rw [hp]; rfl)]
  · unfold secF
    rw [force_eq, fblock_blk _ iv iv_ok _ _ _ _ _ _ _ _ _ _ _ _ _ _ _ _ _ hw]
theorem blocks_front (s : W8) (m : Str) : ∀ n, blocks s m (n + 1) = blocks (block s (m.take 64)) (m.drop 64) n
  | 0 => by
    show block s ((m.drop (64 * 0)).take 64) = block s (m.take 64)
    rw [Nat.mul_zero, List.drop_zero]
  | n + 1 => by
    show block (blocks s m (n + 1)) ((m.drop (64 * (n + 1))).take 64) = block (blocks (block s (m.take 64)) (m.drop 64) n) (((m.drop 64).drop (64 * n)).take 64)
    rw [blocks_front s m n, List.drop_drop, show 64 + 64 * n = 64 * (n + 1) from by omega]
/-- what is left of a leaf's message: a byte, digests, the end -/
def rest (cy : Nat) (L : List W8) : Str := UInt8.ofNat cy :: (L.flatMap out ++ ([128] ++ List.replicate 22 0 ++ be8 17160))
theorem rest_two (cy : Nat) (x y : W8) (L : List W8) : rest cy (x :: y :: L) = (UInt8.ofNat cy :: (out x ++ (out y).take 31)) ++ rest y.h L := by
  have hy : out y = (out y).take 31 ++ [UInt8.ofNat y.h] := rfl
  unfold rest
  rw [List.flatMap_cons, List.flatMap_cons]
  conv => lhs; rw [hy]
  simp only [List.cons_append, List.append_assoc, List.nil_append]
theorem words_two (cy : Nat) (x y : W8) : words (UInt8.ofNat cy :: (out x ++ (out y).take 31)) 16 = [W5 cy x.a, W5 x.a x.b, W5 x.b x.c, W5 x.c x.d, W5 x.d x.e, W5 x.e x.f, W5 x.f x.g, W5 x.g x.h, W5 x.h y.a, W5 y.a y.b, W5 y.b y.c, W5 y.c y.d, W5 y.d y.e, W5 y.e y.f, W5 y.f y.g, W5 y.g y.h] := rfl
def wEnd (p : Nat) : Nat := word (UInt8.ofNat p).toNat (128 : UInt8).toNat (0 : UInt8).toNat (0 : UInt8).toNat
theorem wEnd_eq (p : Nat) : wEnd p = Nat.add (Nat.mul (Nat.mod p 256) 16777216) 8388608 := by
  unfold wEnd word
  rw [UInt8.toNat_ofNat', show (128 : UInt8).toNat = 128 from rfl, show (0 : UInt8).toNat = 0 from rfl]
  show _ = p % 256 * 16777216 + 8388608
  omega
theorem words_one (cy : Nat) (x : W8) : words (rest cy [x]) 16 = [W5 cy x.a, W5 x.a x.b, W5 x.b x.c, W5 x.c x.d, W5 x.d x.e, W5 x.e x.f, W5 x.f x.g, W5 x.g x.h, wEnd x.h, 0, 0, 0, 0, 0, 0, 17160] := by
  have h : words (rest cy [x]) 16 = [W5 cy x.a, W5 x.a x.b, W5 x.b x.c, W5 x.c x.d, W5 x.d x.e, W5 x.e x.f, W5 x.f x.g, W5 x.g x.h, wEnd x.h, w0000, w0000, w0000, w0000, w0000] ++ e8 17160 := by
    unfold rest
    generalize 17160 = n
    rfl
  rw [h, w0000_eq, show e8 17160 = [0, 17160] from by decide]
  rfl
/-- a leaf's blocks, in passing style: G makes the end of a chain -/
noncomputable def lfF {α : Type} (K : Nat → Nat → Nat → Nat → Nat → Nat → Nat → Nat → α) (G : Nat → (Nat → Nat → Nat → Nat → Nat → Nat → Nat → Nat → α) → α) : Nat → Nat → Nat → Nat → Nat → Nat → Nat → Nat → Nat → Nat → Nat → α
  | 0, c, cy, a, b, c', d, e, f, g, h => G c fun x0 x1 x2 x3 x4 x5 x6 x7 => force (Nat.add (Nat.mul (Nat.mod cy 256) 16777216) (Nat.div x0 256)) fun w0 => force (Nat.add (Nat.mul (Nat.mod x0 256) 16777216) (Nat.div x1 256)) fun w1 => force (Nat.add (Nat.mul (Nat.mod x1 256) 16777216) (Nat.div x2 256)) fun w2 => force (Nat.add (Nat.mul (Nat.mod x2 256) 16777216) (Nat.div x3 256)) fun w3 => force (Nat.add (Nat.mul (Nat.mod x3 256) 16777216) (Nat.div x4 256)) fun w4 => force (Nat.add (Nat.mul (Nat.mod x4 256) 16777216) (Nat.div x5 256)) fun w5 => force (Nat.add (Nat.mul (Nat.mod x5 256) 16777216) (Nat.div x6 256)) fun w6 => force (Nat.add (Nat.mul (Nat.mod x6 256) 16777216) (Nat.div x7 256)) fun w7 => force (Nat.add (Nat.mul (Nat.mod x7 256) 16777216) 8388608) fun w8 => fblock K a b c' d e f g h w0 w1 w2 w3 w4 w5 w6 w7 w8 0 0 0 0 0 0 17160
  | n + 1, c, cy, a, b, c', d, e, f, g, h => G c fun x0 x1 x2 x3 x4 x5 x6 x7 => G (Nat.succ c) fun y0 y1 y2 y3 y4 y5 y6 y7 => force (Nat.add (Nat.mul (Nat.mod cy 256) 16777216) (Nat.div x0 256)) fun w0 => force (Nat.add (Nat.mul (Nat.mod x0 256) 16777216) (Nat.div x1 256)) fun w1 => force (Nat.add (Nat.mul (Nat.mod x1 256) 16777216) (Nat.div x2 256)) fun w2 => force (Nat.add (Nat.mul (Nat.mod x2 256) 16777216) (Nat.div x3 256)) fun w3 => force (Nat.add (Nat.mul (Nat.mod x3 256) 16777216) (Nat.div x4 256)) fun w4 => force (Nat.add (Nat.mul (Nat.mod x4 256) 16777216) (Nat.div x5 256)) fun w5 => force (Nat.add (Nat.mul (Nat.mod x5 256) 16777216) (Nat.div x6 256)) fun w6 => force (Nat.add (Nat.mul (Nat.mod x6 256) 16777216) (Nat.div x7 256)) fun w7 => force (Nat.add (Nat.mul (Nat.mod x7 256) 16777216) (Nat.div y0 256)) fun w8 => force (Nat.add (Nat.mul (Nat.mod y0 256) 16777216) (Nat.div y1 256)) fun w9 => force (Nat.add (Nat.mul (Nat.mod y1 256) 16777216) (Nat.div y2 256)) fun w10 => force (Nat.add (Nat.mul (Nat.mod y2 256) 16777216) (Nat.div y3 256)) fun w11 => force (Nat.add (Nat.mul (Nat.mod y3 256) 16777216) (Nat.div y4 256)) fun w12 => force (Nat.add (Nat.mul (Nat.mod y4 256) 16777216) (Nat.div y5 256)) fun w13 => force (Nat.add (Nat.mul (Nat.mod y5 256) 16777216) (Nat.div y6 256)) fun w14 => force (Nat.add (Nat.mul (Nat.mod y6 256) 16777216) (Nat.div y7 256)) fun w15 => fblock (lfF K G n (Nat.succ (Nat.succ c)) y7) a b c' d e f g h w0 w1 w2 w3 w4 w5 w6 w7 w8 w9 w10 w11 w12 w13 w14 w15
theorem lfF_eq {α : Type} (K : Nat → Nat → Nat → Nat → Nat → Nat → Nat → Nat → α) (G : Nat → (Nat → Nat → Nat → Nat → Nat → Nat → Nat → Nat → α) → α) (T : Nat → W8) (hT : ∀ c, c < 67 → (T c).Ok) (hG : ∀ c, c < 67 → ∀ K, G c K = K (T c).a (T c).b (T c).c (T c).d (T c).e (T c).f (T c).g (T c).h) :
    ∀ (n c cy : Nat) (s : W8), s.Ok → c + 2 * n < 67 → lfF K G n c cy s.a s.b s.c s.d s.e s.f s.g s.h = (fun r : W8 => K r.a r.b r.c r.d r.e r.f r.g r.h) (blocks s (rest cy ((List.range (2 * n + 1)).map fun j => T (c + j))) (n + 1))
  | 0, c, cy, s, hs, hc => by
    have ht := hT c (by omega)
    have hl : (List.range (2 * 0 + 1)).map (fun j => T (c + j)) = [T c] := rfl
    rw [hl]
    have hw := words_one cy (T c)
    rw [W5_eq _ _ ht.a, W5_eq _ _ ht.b, W5_eq _ _ ht.c, W5_eq _ _ ht.d, W5_eq _ _ ht.e, W5_eq _ _ ht.f, W5_eq _ _ ht.g, W5_eq _ _ ht.h, wEnd_eq] at hw
    show _ = (fun r : W8 => K r.a r.b r.c r.d r.e r.f r.g r.h) (block s (((rest cy [T c]).drop (64 * 0)).take 64))
    rw [Nat.mul_zero, List.drop_zero, List.take_of_length_le (l := rest cy [T c]) (Nat.le_refl 64), ← fblock_blk K s hs _ _ _ _ _ _ _ _ _ _ _ _ _ _ _ _ _ hw]
    unfold lfF
    rw [hG c (by omega)]
    simp only [force_eq]
  | n + 1, c, cy, s, hs, hc => by
    have ht := hT c (by omega)
    have hu := hT (c + 1) (by omega)
    have hl : (List.range (2 * (n + 1) + 1)).map (fun j => T (c + j)) = T c :: T (c + 1) :: (List.range (2 * n + 1)).map (fun j => T (c + 2 + j)) := by
      rw [show 2 * (n + 1) + 1 = (2 * n + 1) + 1 + 1 from by omega, List.range_succ_eq_map, List.range_succ_eq_map]
      simp only [List.map_cons, List.map_map]
      congr 2
      refine List.map_congr_left fun j _ => ?_
      show T (c + (j + 1 + 1)) = T (c + 2 + j)
      congr 1
      omega
    rw [hl, rest_two, blocks_front]
    have h64 : (UInt8.ofNat cy :: (out (T c) ++ (out (T (c + 1))).take 31)).length = 64 := rfl
    rw [List.take_left' h64, List.drop_left' h64]
    have hw := words_two cy (T c) (T (c + 1))
    rw [W5_eq _ _ ht.a, W5_eq _ _ ht.b, W5_eq _ _ ht.c, W5_eq _ _ ht.d, W5_eq _ _ ht.e, W5_eq _ _ ht.f, W5_eq _ _ ht.g, W5_eq _ _ ht.h, W5_eq _ _ hu.a, W5_eq _ _ hu.b, W5_eq _ _ hu.c, W5_eq _ _ hu.d, W5_eq _ _ hu.e, W5_eq _ _ hu.f, W5_eq _ _ hu.g, W5_eq _ _ hu.h] at hw
    have ih := lfF_eq K G T hT hG n (c + 2) (T (c + 1)).h (block s (UInt8.ofNat cy :: (out (T c) ++ (out (T (c + 1))).take 31))) (block_ok _ _) (by omega)
    rw [← ih]
    have hb := fblock_blk (lfF K G n (c + 2) (T (c + 1)).h) s hs _ _ _ _ _ _ _ _ _ _ _ _ _ _ _ _ _ hw
    refine Eq.trans ?_ hb
    conv => lhs; unfold lfF
    rw [hG c (by omega), hG (c + 1) (by omega)]
    simp only [force_eq]
theorem leaf_of {α : Type} (E : Nat → Str) (G : Nat → (Nat → Nat → Nat → Nat → Nat → Nat → Nat → Nat → α) → α) (h : ∀ c, c < 67 → ∃ t : W8, t.Ok ∧ E c = out t ∧ ∀ K, G c K = K t.a t.b t.c t.d t.e t.f t.g t.h) :
    ∃ r : W8, r.Ok ∧ Mk.leaf ((List.range 67).map E).flatten = out r ∧ ∀ K, lfF K G 33 0 0 iv.a iv.b iv.c iv.d iv.e iv.f iv.g iv.h = K r.a r.b r.c r.d r.e r.f r.g r.h := by
  have h' : ∀ c, ∃ t : W8, c < 67 → t.Ok ∧ E c = out t ∧ ∀ K, G c K = K t.a t.b t.c t.d t.e t.f t.g t.h := fun c => by
    by_cases hc : c < 67
    · obtain ⟨t, ht⟩ := h c hc
      exact ⟨t, fun _ => ht⟩
    · exact ⟨iv, fun h => absurd h hc⟩
  obtain ⟨T, hT⟩ : ∃ T : Nat → W8, ∀ c, c < 67 → (T c).Ok ∧ E c = out (T c) ∧ ∀ K, G c K = K (T c).a (T c).b (T c).c (T c).d (T c).e (T c).f (T c).g (T c).h := ⟨fun c => Classical.choose (h' c), fun c => Classical.choose_spec (h' c)⟩
  have hE : (List.range 67).map E = (List.range 67).map fun c => out (T c) := List.map_congr_left fun c hc => (hT c (List.mem_range.1 hc)).2.1
  have hl : ((List.range 67).map fun c => out (T c)).flatten.length = 2144 := by
    have : ∀ l : List Nat, (l.map fun c => out (T c)).flatten.length = 32 * l.length := fun l => by
      induction l with
      | nil => rfl
      | cons x l ih =>
        rw [List.map_cons, List.flatten_cons, List.length_append, ih, out_len, List.length_cons]
        omega
    rw [this, List.length_range]
  have hp : pad (0 :: ((List.range 67).map fun c => out (T c)).flatten) = rest 0 ((List.range 67).map T) := by
    rw [pad_of _ 2145 22 (by rw [List.length_cons, hl]) (by decide)]
    unfold rest
    rw [List.flatMap_map]
    simp only [List.cons_append, List.append_assoc, List.flatMap_def]
    rfl
  have hpl : (rest 0 ((List.range 67).map T)).length = 2176 := by
    rw [← hp, pad_of _ 2145 22 (by rw [List.length_cons, hl]) (by decide)]
    simp only [List.length_append, List.length_cons, hl, List.length_replicate, List.length_nil]
    rfl
  refine ⟨blocks iv (rest 0 ((List.range 67).map T)) 34, blocks_ok iv_ok _ _, ?_, fun K => ?_⟩
  · rw [hE]
    show sha (0 :: _) = _
    unfold sha
    rw [hp, hpl]
  · have := lfF_eq K G T (fun c hc => (hT c hc).1) (fun c hc => (hT c hc).2.2) 33 0 0 iv iv_ok (by decide)
    rw [this]
    simp only [Nat.zero_add]
/-- a node's hash, in passing style -/
noncomputable def ndF {α : Type} (K : Nat → Nat → Nat → Nat → Nat → Nat → Nat → Nat → α) (x0 x1 x2 x3 x4 x5 x6 x7 y0 y1 y2 y3 y4 y5 y6 y7 : Nat) : α := force (Nat.add (Nat.mul (Nat.mod 1 256) 16777216) (Nat.div x0 256)) fun w0 => force (Nat.add (Nat.mul (Nat.mod x0 256) 16777216) (Nat.div x1 256)) fun w1 => force (Nat.add (Nat.mul (Nat.mod x1 256) 16777216) (Nat.div x2 256)) fun w2 => force (Nat.add (Nat.mul (Nat.mod x2 256) 16777216) (Nat.div x3 256)) fun w3 => force (Nat.add (Nat.mul (Nat.mod x3 256) 16777216) (Nat.div x4 256)) fun w4 => force (Nat.add (Nat.mul (Nat.mod x4 256) 16777216) (Nat.div x5 256)) fun w5 => force (Nat.add (Nat.mul (Nat.mod x5 256) 16777216) (Nat.div x6 256)) fun w6 => force (Nat.add (Nat.mul (Nat.mod x6 256) 16777216) (Nat.div x7 256)) fun w7 => force (Nat.add (Nat.mul (Nat.mod x7 256) 16777216) (Nat.div y0 256)) fun w8 => force (Nat.add (Nat.mul (Nat.mod y0 256) 16777216) (Nat.div y1 256)) fun w9 => force (Nat.add (Nat.mul (Nat.mod y1 256) 16777216) (Nat.div y2 256)) fun w10 => force (Nat.add (Nat.mul (Nat.mod y2 256) 16777216) (Nat.div y3 256)) fun w11 => force (Nat.add (Nat.mul (Nat.mod y3 256) 16777216) (Nat.div y4 256)) fun w12 => force (Nat.add (Nat.mul (Nat.mod y4 256) 16777216) (Nat.div y5 256)) fun w13 => force (Nat.add (Nat.mul (Nat.mod y5 256) 16777216) (Nat.div y6 256)) fun w14 => force (Nat.add (Nat.mul (Nat.mod y6 256) 16777216) (Nat.div y7 256)) fun w15 => fblock (fun a b c d e f g h => force (Nat.add (Nat.mul (Nat.mod y7 256) 16777216) 8388608) fun v0 => fblock K a b c d e f g h v0 0 0 0 0 0 0 0 0 0 0 0 0 0 0 520) iv.a iv.b iv.c iv.d iv.e iv.f iv.g iv.h w0 w1 w2 w3 w4 w5 w6 w7 w8 w9 w10 w11 w12 w13 w14 w15
theorem ndF_eq {α : Type} (x y : W8) (hx : x.Ok) (hy : y.Ok) : ∃ r : W8, r.Ok ∧ Mk.node (out x) (out y) = out r ∧ ∀ K : Nat → Nat → Nat → Nat → Nat → Nat → Nat → Nat → α, ndF K x.a x.b x.c x.d x.e x.f x.g x.h y.a y.b y.c y.d y.e y.f y.g y.h = K r.a r.b r.c r.d r.e r.f r.g r.h := by
  have hn : Mk.node (out x) (out y) = sha (1 :: (out x ++ out y)) := by unfold Mk.node; rw [if_pos ⟨rfl, rfl⟩]
  have hp : pad (1 :: (out x ++ out y)) = (UInt8.ofNat 1 :: (out x ++ (out y).take 31)) ++ (UInt8.ofNat y.h :: ([128] ++ List.replicate 54 0 ++ be8 520)) := by
    rw [pad_of _ 65 54 rfl (by decide)]
    rfl
  have h64 : (UInt8.ofNat 1 :: (out x ++ (out y).take 31)).length = 64 := rfl
  have hw := words_two 1 x y
  rw [W5_eq _ _ hx.a, W5_eq _ _ hx.b, W5_eq _ _ hx.c, W5_eq _ _ hx.d, W5_eq _ _ hx.e, W5_eq _ _ hx.f, W5_eq _ _ hx.g, W5_eq _ _ hx.h, W5_eq _ _ hy.a, W5_eq _ _ hy.b, W5_eq _ _ hy.c, W5_eq _ _ hy.d, W5_eq _ _ hy.e, W5_eq _ _ hy.f, W5_eq _ _ hy.g, W5_eq _ _ hy.h] at hw
  have hw2 : words (UInt8.ofNat y.h :: ([128] ++ List.replicate 54 0 ++ be8 520)) 16 = [Nat.add (Nat.mul (Nat.mod y.h 256) 16777216) 8388608, 0, 0, 0, 0, 0, 0, 0, 0, 0, 0, 0, 0, 0, 0, 520] := by
    have h : words (UInt8.ofNat y.h :: ([128] ++ List.replicate 54 0 ++ be8 520)) 16 = wEnd y.h :: (List.replicate 13 w0000 ++ e8 520) := by
      generalize 520 = n
      rfl
    rw [h, wEnd_eq, w0000_eq, show e8 520 = [0, 520] from by decide]
    rfl
  have hb : blocks iv (pad (1 :: (out x ++ out y))) 2 = block (block iv (UInt8.ofNat 1 :: (out x ++ (out y).take 31))) (UInt8.ofNat y.h :: ([128] ++ List.replicate 54 0 ++ be8 520)) := by
    rw [blocks_front, hp, List.take_left' h64, List.drop_left' h64]
    show block _ (((UInt8.ofNat y.h :: ([128] ++ List.replicate 54 0 ++ be8 520)).drop (64 * 0)).take 64) = _
    rw [Nat.mul_zero, List.drop_zero, List.take_of_length_le (l := UInt8.ofNat y.h :: ([128] ++ List.replicate 54 0 ++ be8 520)) (Nat.le_refl 64)]
    rfl
  refine ⟨blocks iv (pad (1 :: (out x ++ out y))) 2, blocks_ok iv_ok _ _, ?_, fun K => ?_⟩
  · rw [hn]
    unfold sha
    have : (pad (1 :: (out x ++ out y))).length = 128 := by rw [hp]; rfl
    rw [this]
  · rw [hb]
    refine Eq.trans ?_ (fblock_blk K (block iv (UInt8.ofNat 1 :: (out x ++ (out y).take 31))) (block_ok _ _) _ _ _ _ _ _ _ _ _ _ _ _ _ _ _ _ _ hw2)
    refine Eq.trans ?_ (fblock_blk (fun a b c d e f g h => fblock K a b c d e f g h (Nat.add (Nat.mul (Nat.mod y.h 256) 16777216) 8388608) 0 0 0 0 0 0 0 0 0 0 0 0 0 0 520) iv iv_ok _ _ _ _ _ _ _ _ _ _ _ _ _ _ _ _ _ hw)
    unfold ndF
    simp only [force_eq]
theorem out_ne (r t : W8) (hr : r.Ok) (ht : t.Ok) (h : Nat.beq r.a t.a = false) : ¬ out r = out t := fun e => by
  rw [out_eq, out_eq] at e
  injection e with e1 e
  injection e with e2 e
  injection e with e3 e
  injection e with e4 e
  have h1 : W4 r.a = W4 t.a := by unfold W4; rw [e1, e2, e3, e4]
  rw [W4_eq _ hr.a, W4_eq _ ht.a] at h1
  have h3 : Nat.beq t.a t.a = true := by simp
  rw [h1, h3] at h
  cases h
end Go.Proofs.Ytnlpakalcckaiaa.Sh
