/-
  SHA-256 as the kernel reckons it fast: a block's rounds in passing style over naturals, each value forced; and that this is the block of the plain definitions. Conditions: words below 2^32.
-/
import Derived.Test.YtiklfjehhdbhfaaShMath
namespace Go.Proofs.Ytiklfjehhdbhfaa.Sh
set_option linter.unusedVariables false

def force {α : Type} (n : Nat) (f : Nat → α) : α := match n with | 0 => f 0 | m + 1 => f (Nat.succ m)
theorem force_eq {α : Type} (n : Nat) (f : Nat → α) : force n f = f n := by cases n <;> rfl
def fS1 (y : Nat) : Nat := Nat.xor (Nat.xor (Nat.shiftRight y 6) (Nat.shiftRight y 11)) (Nat.shiftRight y 25)
def fS0 (y : Nat) : Nat := Nat.xor (Nat.xor (Nat.shiftRight y 2) (Nat.shiftRight y 13)) (Nat.shiftRight y 22)
def fs0 (y x : Nat) : Nat := Nat.xor (Nat.mod (Nat.xor (Nat.shiftRight y 7) (Nat.shiftRight y 18)) 4294967296) (Nat.shiftRight x 3)
def fs1 (y x : Nat) : Nat := Nat.xor (Nat.mod (Nat.xor (Nat.shiftRight y 17) (Nat.shiftRight y 19)) 4294967296) (Nat.shiftRight x 10)
/-- the words in passing: what follows is called with the eight words -/
noncomputable def run {α : Type} (K : Nat → Nat → Nat → Nat → Nat → Nat → Nat → Nat → α) (l : List Nat) : Nat → Nat → Nat → Nat → Nat → Nat → Nat → Nat → Nat → Nat → Nat → Nat → Nat → Nat → Nat → Nat → Nat → Nat → Nat → Nat → Nat → Nat → Nat → Nat → α :=
  List.rec (motive := fun _ => Nat → Nat → Nat → Nat → Nat → Nat → Nat → Nat → Nat → Nat → Nat → Nat → Nat → Nat → Nat → Nat → Nat → Nat → Nat → Nat → Nat → Nat → Nat → Nat → α) (fun _ _ _ _ _ _ _ _ _ _ _ _ _ _ _ _ a b c d e f g h => K a b c d e f g h)
   (fun k _ ih => fun w0 w1 w2 w3 w4 w5 w6 w7 w8 w9 w10 w11 w12 w13 w14 w15 a b c d e f g h =>
    force (Nat.add (Nat.add (Nat.add h (Nat.mod (fS1 (Nat.mul e 4294967297)) 4294967296)) (Nat.xor g (Nat.land e (Nat.xor f g)))) (Nat.add k w0)) fun t1 =>
    force (Nat.mod (Nat.add t1 (Nat.add (Nat.mod (fS0 (Nat.mul a 4294967297)) 4294967296) (Nat.xor (Nat.land a (Nat.xor b c)) (Nat.land b c)))) 4294967296) fun a' =>
    force (Nat.mod (Nat.add d t1) 4294967296) fun e' =>
    force (Nat.mod (Nat.add (Nat.add (fs1 (Nat.mul w14 4294967297) w14) w9) (Nat.add (fs0 (Nat.mul w1 4294967297) w1) w0)) 4294967296) fun w16 =>
    ih w1 w2 w3 w4 w5 w6 w7 w8 w9 w10 w11 w12 w13 w14 w15 w16 a' a b c e' e f g) l
theorem run_cons {α : Type} (K : Nat → Nat → Nat → Nat → Nat → Nat → Nat → Nat → α) (k : Nat) (l : List Nat) (w0 w1 w2 w3 w4 w5 w6 w7 w8 w9 w10 w11 w12 w13 w14 w15 a b c d e f g h : Nat) : run K (k :: l) w0 w1 w2 w3 w4 w5 w6 w7 w8 w9 w10 w11 w12 w13 w14 w15 a b c d e f g h =
    force (Nat.add (Nat.add (Nat.add h (Nat.mod (fS1 (Nat.mul e 4294967297)) 4294967296)) (Nat.xor g (Nat.land e (Nat.xor f g)))) (Nat.add k w0)) fun t1 =>
    force (Nat.mod (Nat.add t1 (Nat.add (Nat.mod (fS0 (Nat.mul a 4294967297)) 4294967296) (Nat.xor (Nat.land a (Nat.xor b c)) (Nat.land b c)))) 4294967296) fun a' =>
    force (Nat.mod (Nat.add d t1) 4294967296) fun e' =>
    force (Nat.mod (Nat.add (Nat.add (fs1 (Nat.mul w14 4294967297) w14) w9) (Nat.add (fs0 (Nat.mul w1 4294967297) w1) w0)) 4294967296) fun w16 =>
    run K l w1 w2 w3 w4 w5 w6 w7 w8 w9 w10 w11 w12 w13 w14 w15 w16 a' a b c e' e f g := rfl
theorem zip_take {α β : Type} : ∀ (l : List α) (m : List β), l.zip (m.take l.length) = l.zip m
  | [], _ => by simp
  | _ :: _, [] => by simp
  | x :: l, y :: m => by
    show (x, y) :: l.zip (m.take l.length) = (x, y) :: l.zip m
    rw [zip_take l m]
theorem rot_fast (x n : Nat) (hx : x < 4294967296) (h1 : 1 ≤ n) (h2 : n ≤ 31) : rot x n = (x * 4294967297) / 2 ^ n % 4294967296 := by
  obtain ⟨m, hm⟩ : ∃ m, 32 = n + m := ⟨32 - n, by omega⟩
  have h32 : 4294967296 = 2 ^ n * 2 ^ m := by rw [← Nat.pow_add, ← hm]
  have hnm : 32 - n = m := by omega
  unfold rot
  rw [hnm]
  have hp : 0 < 2 ^ n := Nat.two_pow_pos n
  have hq : x / 2 ^ n < 2 ^ m := by
    rw [Nat.div_lt_iff_lt_mul hp, Nat.mul_comm, ← h32]
    exact hx
  have e0 : (4294967297 : Nat) = 2 ^ n * 2 ^ m + 1 := by rw [← h32]
  have e1 : x * 4294967297 = x + 2 ^ n * (x * 2 ^ m) := by
    rw [e0, Nat.mul_add, Nat.mul_one, Nat.mul_left_comm, Nat.add_comm]
  have e2 : x * 4294967297 / 2 ^ n = x / 2 ^ n + x * 2 ^ m := by rw [e1, Nat.add_mul_div_left _ _ hp]
  have e3 : x * 2 ^ m % 4294967296 = 2 ^ m * (x % 2 ^ n) := by rw [h32, Nat.mul_comm (2 ^ n) (2 ^ m), Nat.mul_comm x, Nat.mul_mod_mul_left]
  have h6 : 2 ^ m * (x % 2 ^ n) + 2 ^ m ≤ 4294967296 := by
    have h5 := Nat.mul_le_mul_left (2 ^ m) (Nat.mod_lt x hp)
    rw [Nat.succ_eq_add_one, Nat.mul_add, Nat.mul_one, Nat.mul_comm (2 ^ m) (2 ^ n), ← h32] at h5
    exact h5
  rw [e2, e3, Nat.or_comm, ← Nat.two_pow_add_eq_or_of_lt hq]
  rw [← Nat.add_mod_mod, e3]
  generalize 2 ^ m * (x % 2 ^ n) = A at h6 ⊢
  generalize x / 2 ^ n = B at hq ⊢
  generalize 2 ^ m = M at hq h6
  rw [Nat.mod_eq_of_lt (by omega)]
  omega
theorem xor_mod32 (a b : Nat) : (a ^^^ b) % 4294967296 = (a % 4294967296) ^^^ (b % 4294967296) := Nat.xor_mod_two_pow (n := 32)
theorem fS1_eq (e : Nat) (he : e < 4294967296) : Nat.mod (fS1 (Nat.mul e 4294967297)) 4294967296 = bS1 e := by
  have a1 := rot_fast e 6 he (by decide) (by decide)
  have a2 := rot_fast e 11 he (by decide) (by decide)
  have a3 := rot_fast e 25 he (by decide) (by decide)
  unfold bS1
  rw [a1, a2, a3]
  show (((e * 4294967297) >>> 6 ^^^ (e * 4294967297) >>> 11) ^^^ (e * 4294967297) >>> 25) % 4294967296 = _
  rw [xor_mod32, xor_mod32, Nat.shiftRight_eq_div_pow, Nat.shiftRight_eq_div_pow, Nat.shiftRight_eq_div_pow]
theorem fS0_eq (e : Nat) (he : e < 4294967296) : Nat.mod (fS0 (Nat.mul e 4294967297)) 4294967296 = bS0 e := by
  have a1 := rot_fast e 2 he (by decide) (by decide)
  have a2 := rot_fast e 13 he (by decide) (by decide)
  have a3 := rot_fast e 22 he (by decide) (by decide)
  unfold bS0
  rw [a1, a2, a3]
  show (((e * 4294967297) >>> 2 ^^^ (e * 4294967297) >>> 13) ^^^ (e * 4294967297) >>> 22) % 4294967296 = _
  rw [xor_mod32, xor_mod32, Nat.shiftRight_eq_div_pow, Nat.shiftRight_eq_div_pow, Nat.shiftRight_eq_div_pow]
theorem fs0_eq (e : Nat) (he : e < 4294967296) : fs0 (Nat.mul e 4294967297) e = ss0 e := by
  have a1 := rot_fast e 7 he (by decide) (by decide)
  have a2 := rot_fast e 18 he (by decide) (by decide)
  unfold ss0
  rw [a1, a2]
  show (((e * 4294967297) >>> 7 ^^^ (e * 4294967297) >>> 18) % 4294967296) ^^^ (e >>> 3) = _
  rw [xor_mod32, Nat.shiftRight_eq_div_pow, Nat.shiftRight_eq_div_pow, Nat.shiftRight_eq_div_pow]
theorem fs1_eq (e : Nat) (he : e < 4294967296) : fs1 (Nat.mul e 4294967297) e = ss1 e := by
  have a1 := rot_fast e 17 he (by decide) (by decide)
  have a2 := rot_fast e 19 he (by decide) (by decide)
  unfold ss1
  rw [a1, a2]
  show (((e * 4294967297) >>> 17 ^^^ (e * 4294967297) >>> 19) % 4294967296) ^^^ (e >>> 10) = _
  rw [xor_mod32, Nat.shiftRight_eq_div_pow, Nat.shiftRight_eq_div_pow, Nat.shiftRight_eq_div_pow]
theorem ch_fast (e f g : Nat) (hg : g < 4294967296) : Nat.xor g (Nat.land e (Nat.xor f g)) = ch e f g := by
  show g ^^^ (e &&& (f ^^^ g)) = (e &&& f) ^^^ ((4294967295 ^^^ e) &&& g)
  apply Nat.eq_of_testBit_eq
  intro i
  have hm : (4294967295 : Nat).testBit i = decide (i < 32) := by rw [show (4294967295 : Nat) = 2 ^ 32 - 1 from rfl, Nat.testBit_two_pow_sub_one]
  simp only [Nat.testBit_xor, Nat.testBit_and, hm]
  by_cases hi : i < 32
  · simp only [hi, decide_true]
    cases g.testBit i <;> cases e.testBit i <;> cases f.testBit i <;> rfl
  · have : g.testBit i = false := Nat.testBit_lt_two_pow (Nat.lt_of_lt_of_le hg (Nat.pow_le_pow_right (show 0 < 2 by decide) (show 32 ≤ i by omega)))
    rw [this]
    cases e.testBit i <;> cases f.testBit i <;> simp
theorem mj_fast (a b c : Nat) : Nat.xor (Nat.land a (Nat.xor b c)) (Nat.land b c) = mj a b c := by
  show (a &&& (b ^^^ c)) ^^^ (b &&& c) = (a &&& b) ^^^ (a &&& c) ^^^ (b &&& c)
  apply Nat.eq_of_testBit_eq
  intro i
  simp only [Nat.testBit_xor, Nat.testBit_and]
  cases a.testBit i <;> cases b.testBit i <;> cases c.testBit i <;> rfl
/-- the last sixteen words alone count -/
theorem nextW_cons (x : Nat) (l : List Nat) (h : 16 ≤ l.length) : nextW (x :: l) = nextW l := by
  unfold nextW
  have g : ∀ k, 1 ≤ k → k ≤ 16 → (x :: l).getD ((x :: l).length - k) 0 = l.getD (l.length - k) 0 := fun k h1 h2 => by
    have : (x :: l).length - k = (l.length - k) + 1 := by simp; omega
    rw [this]
    rfl
  rw [g 2 (by decide) (by decide), g 7 (by decide) (by decide), g 15 (by decide) (by decide), g 16 (by decide) (by decide)]
theorem extend_cons (x : Nat) : ∀ (n : Nat) (l : List Nat), 16 ≤ l.length → extend n (x :: l) = x :: extend n l
  | 0, _, _ => rfl
  | n + 1, l, h => by
    show extend n ((x :: l) ++ [nextW (x :: l)]) = x :: extend n (l ++ [nextW l])
    rw [nextW_cons x l h]
    exact extend_cons x n (l ++ [nextW l]) (by simp; omega)
theorem run_eq {α : Type} (K : Nat → Nat → Nat → Nat → Nat → Nat → Nat → Nat → α) : ∀ (l : List Nat) (w0 w1 w2 w3 w4 w5 w6 w7 w8 w9 w10 w11 w12 w13 w14 w15 : Nat) (s : W8), (∀ x ∈ [w0, w1, w2, w3, w4, w5, w6, w7, w8, w9, w10, w11, w12, w13, w14, w15], x < 4294967296) → s.Ok →
    run K l w0 w1 w2 w3 w4 w5 w6 w7 w8 w9 w10 w11 w12 w13 w14 w15 s.a s.b s.c s.d s.e s.f s.g s.h = (let r := rounds s (l.zip (extend l.length [w0, w1, w2, w3, w4, w5, w6, w7, w8, w9, w10, w11, w12, w13, w14, w15])); K r.a r.b r.c r.d r.e r.f r.g r.h)
  | [], w0, w1, w2, w3, w4, w5, w6, w7, w8, w9, w10, w11, w12, w13, w14, w15, s, _, _ => rfl
  | k :: l, w0, w1, w2, w3, w4, w5, w6, w7, w8, w9, w10, w11, w12, w13, w14, w15, s, hw, hs => by
    have hext : extend (k :: l).length [w0, w1, w2, w3, w4, w5, w6, w7, w8, w9, w10, w11, w12, w13, w14, w15] = w0 :: extend l.length [w1, w2, w3, w4, w5, w6, w7, w8, w9, w10, w11, w12, w13, w14, w15, nextW [w0, w1, w2, w3, w4, w5, w6, w7, w8, w9, w10, w11, w12, w13, w14, w15]] := by
      show extend l.length ([w0, w1, w2, w3, w4, w5, w6, w7, w8, w9, w10, w11, w12, w13, w14, w15] ++ [nextW [w0, w1, w2, w3, w4, w5, w6, w7, w8, w9, w10, w11, w12, w13, w14, w15]]) = _
      exact extend_cons w0 l.length ([w1, w2, w3, w4, w5, w6, w7, w8, w9, w10, w11, w12, w13, w14, w15] ++ [nextW [w0, w1, w2, w3, w4, w5, w6, w7, w8, w9, w10, w11, w12, w13, w14, w15]]) (by simp)
    have hn : nextW [w0, w1, w2, w3, w4, w5, w6, w7, w8, w9, w10, w11, w12, w13, w14, w15] = (ss1 w14 + w9 + ss0 w1 + w0) % 4294967296 := rfl
    have h1 := fS1_eq s.e hs.e
    have h2 := fS0_eq s.a hs.a
    have h3 := fs1_eq w14 (hw w14 (by simp))
    have h4 := fs0_eq w1 (hw w1 (by simp))
    have h5 := ch_fast s.e s.f s.g hs.g
    have h6 := mj_fast s.a s.b s.c
    have e1 : Nat.mod (Nat.add (Nat.add (Nat.add (Nat.add s.h (bS1 s.e)) (ch s.e s.f s.g)) (Nat.add k w0)) (Nat.add (bS0 s.a) (mj s.a s.b s.c))) 4294967296 = (rnd s k w0).a := by
      show (s.h + bS1 s.e + ch s.e s.f s.g + (k + w0) + (bS0 s.a + mj s.a s.b s.c)) % 4294967296 = ((s.h + bS1 s.e + ch s.e s.f s.g + k + w0) % 4294967296 + (bS0 s.a + mj s.a s.b s.c) % 4294967296) % 4294967296
      omega
    have e2 : Nat.mod (Nat.add s.d (Nat.add (Nat.add (Nat.add s.h (bS1 s.e)) (ch s.e s.f s.g)) (Nat.add k w0))) 4294967296 = (rnd s k w0).e := by
      show (s.d + (s.h + bS1 s.e + ch s.e s.f s.g + (k + w0))) % 4294967296 = (s.d + (s.h + bS1 s.e + ch s.e s.f s.g + k + w0) % 4294967296) % 4294967296
      omega
    have e3 : Nat.mod (Nat.add (Nat.add (ss1 w14) w9) (Nat.add (ss0 w1) w0)) 4294967296 = nextW [w0, w1, w2, w3, w4, w5, w6, w7, w8, w9, w10, w11, w12, w13, w14, w15] := by
      rw [hn]
      show (ss1 w14 + w9 + (ss0 w1 + w0)) % 4294967296 = (ss1 w14 + w9 + ss0 w1 + w0) % 4294967296
      congr 1
      omega
    have ih := run_eq K l w1 w2 w3 w4 w5 w6 w7 w8 w9 w10 w11 w12 w13 w14 w15 (nextW [w0, w1, w2, w3, w4, w5, w6, w7, w8, w9, w10, w11, w12, w13, w14, w15]) (rnd s k w0) (fun x hx => by
      simp only [List.mem_cons, List.not_mem_nil, or_false] at hx hw
      rcases hx with hx | hx | hx | hx | hx | hx | hx | hx | hx | hx | hx | hx | hx | hx | hx | hx
      · exact hw x (.inr (.inl hx))
      · exact hw x (.inr (.inr (.inl hx)))
      · exact hw x (.inr (.inr (.inr (.inl hx))))
      · exact hw x (.inr (.inr (.inr (.inr (.inl hx)))))
      · exact hw x (.inr (.inr (.inr (.inr (.inr (.inl hx))))))
      · exact hw x (.inr (.inr (.inr (.inr (.inr (.inr (.inl hx)))))))
      · exact hw x (.inr (.inr (.inr (.inr (.inr (.inr (.inr (.inl hx))))))))
      · exact hw x (.inr (.inr (.inr (.inr (.inr (.inr (.inr (.inr (.inl hx)))))))))
      · exact hw x (.inr (.inr (.inr (.inr (.inr (.inr (.inr (.inr (.inr (.inl hx))))))))))
      · exact hw x (.inr (.inr (.inr (.inr (.inr (.inr (.inr (.inr (.inr (.inr (.inl hx)))))))))))
      · exact hw x (.inr (.inr (.inr (.inr (.inr (.inr (.inr (.inr (.inr (.inr (.inr (.inl hx))))))))))))
      · exact hw x (.inr (.inr (.inr (.inr (.inr (.inr (.inr (.inr (.inr (.inr (.inr (.inr (.inl hx)))))))))))))
      · exact hw x (.inr (.inr (.inr (.inr (.inr (.inr (.inr (.inr (.inr (.inr (.inr (.inr (.inr (.inl hx))))))))))))))
      · exact hw x (.inr (.inr (.inr (.inr (.inr (.inr (.inr (.inr (.inr (.inr (.inr (.inr (.inr (.inr (.inl hx)))))))))))))))
      · exact hw x (.inr (.inr (.inr (.inr (.inr (.inr (.inr (.inr (.inr (.inr (.inr (.inr (.inr (.inr (.inr hx)))))))))))))))
      · rw [hx, hn]; exact Nat.mod_lt _ (show 0 < 4294967296 by decide)) (rnd_ok hs k w0)
    rw [run_cons, force_eq, force_eq, force_eq, force_eq, h1, h2, h3, h4, h5, h6, e1, e2, e3, hext]
    exact ih
/-- a block -/
noncomputable def fblock {α : Type} (K : Nat → Nat → Nat → Nat → Nat → Nat → Nat → Nat → α) (a b c d e f g h w0 w1 w2 w3 w4 w5 w6 w7 w8 w9 w10 w11 w12 w13 w14 w15 : Nat) : α :=
  run (fun a' b' c' d' e' f' g' h' =>
    force (Nat.mod (Nat.add a a') 4294967296) fun a2 => force (Nat.mod (Nat.add b b') 4294967296) fun b2 => force (Nat.mod (Nat.add c c') 4294967296) fun c2 => force (Nat.mod (Nat.add d d') 4294967296) fun d2 =>
    force (Nat.mod (Nat.add e e') 4294967296) fun e2 => force (Nat.mod (Nat.add f f') 4294967296) fun f2 => force (Nat.mod (Nat.add g g') 4294967296) fun g2 => force (Nat.mod (Nat.add h h') 4294967296) fun h2 =>
    K a2 b2 c2 d2 e2 f2 g2 h2) ks w0 w1 w2 w3 w4 w5 w6 w7 w8 w9 w10 w11 w12 w13 w14 w15 a b c d e f g h
theorem fblock_eq {α : Type} (K : Nat → Nat → Nat → Nat → Nat → Nat → Nat → Nat → α) (s : W8) (hs : s.Ok) (b : Str) (w0 w1 w2 w3 w4 w5 w6 w7 w8 w9 w10 w11 w12 w13 w14 w15 : Nat) (hw : words b 16 = [w0, w1, w2, w3, w4, w5, w6, w7, w8, w9, w10, w11, w12, w13, w14, w15]) :
    fblock K s.a s.b s.c s.d s.e s.f s.g s.h w0 w1 w2 w3 w4 w5 w6 w7 w8 w9 w10 w11 w12 w13 w14 w15 = (let r := block s b; K r.a r.b r.c r.d r.e r.f r.g r.h) := by
  have hlt := words_lt b 16
  rw [hw] at hlt
  unfold fblock
  rw [run_eq _ ks w0 w1 w2 w3 w4 w5 w6 w7 w8 w9 w10 w11 w12 w13 w14 w15 s hlt hs]
  have hz : ks.zip (extend ks.length [w0, w1, w2, w3, w4, w5, w6, w7, w8, w9, w10, w11, w12, w13, w14, w15]) = ks.zip (sched b) := by
    have h1 := extend_take 64 [w0, w1, w2, w3, w4, w5, w6, w7, w8, w9, w10, w11, w12, w13, w14, w15] 48 (by decide)
    rw [← hw, words_length] at h1
    unfold sched
    rw [← h1, ← hw]
    show ks.zip (extend 64 (words b 16)) = _
    generalize extend 64 (words b 16) = L
    exact (zip_take ks L).symm
  rw [hz]
  simp only [force_eq]
  unfold block
  generalize rounds s (ks.zip (sched b)) = R
  rfl
end Go.Proofs.Ytiklfjehhdbhfaa.Sh
