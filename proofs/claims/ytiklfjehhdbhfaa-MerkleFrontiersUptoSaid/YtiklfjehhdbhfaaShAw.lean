/-
  Two digests in figures. Conditions: none.
-/
import Derived.Test.YtiklfjehhdbhfaaShFast
import Derived.Test.YtiklfjehhdbhfaaShMath2
import Derived.KernelRfl
namespace Go.Proofs.Ytiklfjehhdbhfaa.Sh
set_option linter.unusedVariables false

/-- the digest of a message whose padding is one block, in passing style -/
theorem sha_one {α : Type} (K : Str → α) (m : Str) (w0 w1 w2 w3 w4 w5 w6 w7 w8 w9 w10 w11 w12 w13 w14 w15 : Nat) (hl : (pad m).length = 64) (hw : words (pad m) 16 = [w0, w1, w2, w3, w4, w5, w6, w7, w8, w9, w10, w11, w12, w13, w14, w15]) :
    fblock (fun a b c d e f g h => K (out ⟨a, b, c, d, e, f, g, h⟩)) iv.a iv.b iv.c iv.d iv.e iv.f iv.g iv.h w0 w1 w2 w3 w4 w5 w6 w7 w8 w9 w10 w11 w12 w13 w14 w15 = K (sha m) := by
  rw [fblock_eq _ iv iv_ok (pad m) _ _ _ _ _ _ _ _ _ _ _ _ _ _ _ _ hw]
  unfold sha
  rw [hl]
  show K (out (block iv (pad m))) = K (out (block iv (((pad m).drop (64 * 0)).take 64)))
  rw [Nat.mul_zero, List.drop_zero, List.take_of_length_le (by omega)]
def emptyHex : Str := [101, 51, 98, 48, 99, 52, 52, 50, 57, 56, 102, 99, 49, 99, 49, 52, 57, 97, 102, 98, 102, 52, 99, 56, 57, 57, 54, 102, 98, 57, 50, 52, 50, 55, 97, 101, 52, 49, 101, 52, 54, 52, 57, 98, 57, 51, 52, 99, 97, 52, 57, 53, 57, 57, 49, 98, 55, 56, 53, 50, 98, 56, 53, 53]
def abcHex : Str := [98, 97, 55, 56, 49, 54, 98, 102, 56, 102, 48, 49, 99, 102, 101, 97, 52, 49, 52, 49, 52, 48, 100, 101, 53, 100, 97, 101, 50, 50, 50, 51, 98, 48, 48, 51, 54, 49, 97, 51, 57, 54, 49, 55, 55, 97, 57, 99, 98, 52, 49, 48, 102, 102, 54, 49, 102, 50, 48, 48, 49, 53, 97, 100]
theorem sha_nil : unhex emptyHex 32 = sha [] := by
  have h := sha_one (fun x => decide (unhex emptyHex 32 = x)) [] 2147483648 0 0 0 0 0 0 0 0 0 0 0 0 0 0 0 (by decide +kernel) (by decide +kernel)
  exact of_decide_eq_true (h.symm.trans (by kernel_rfl))
theorem good_nil : good emptyHex = true := by decide +kernel
theorem sha_abc : hex (sha [97, 98, 99]) = abcHex := by
  have h := sha_one (fun x => decide (hex x = abcHex)) [97, 98, 99] 1633837952 0 0 0 0 0 0 0 0 0 0 0 0 0 0 24 (by decide +kernel) (by decide +kernel)
  exact of_decide_eq_true (h.symm.trans (by kernel_rfl))
end Go.Proofs.Ytiklfjehhdbhfaa.Sh
