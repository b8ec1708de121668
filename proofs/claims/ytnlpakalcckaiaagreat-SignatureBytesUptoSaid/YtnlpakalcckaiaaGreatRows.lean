/-
  No cell of these rows narrows 'for every input' (looked for: loops, veiled, ifaces, maps, wideKeys, modest, calm, conditions, laid).
  DERIVED. THE GIVEN ROWS OF THIS SEAT. 4 by the template 'for every input the law returns true; each argument reads behind the call as it read before'; 0 by the template 'total and deterministic' (their statements: YtnlpakalcckaiaaGreatTotals.lean).
  GIVEN WITH THE SEED: the statements are not yours to turn. If you find one false, say at which input.
  Laid BY PROGRAM, IN A SANDBOX (cutbox-rows.mjs): the forced cells as the released guide's own fill.sh prints them over the translation 2ef1847222b6c565… (all of the seat's roots in one cut). By AI agents, Wed Nov 11 2026. No macro, syntax, notation, axiom, sorry.
-/
import Derived.Test.YtnlpakalcckaiaaGreatChecked
import GoSem.Claim
import GoSem.ClaimJoined
import GoSem.ClaimMapViews
import Derived.JoinedTies
import Derived.KernelRfl
namespace Go.Proofs.YtnlpakalcckaiaaGreat
/- THE CELL 'sum', in the pinned program and in every row, IS THE sha256 OF THE DUMP (.gsa) THAT YtnlpakalcckaiaaGreatProg.lean LOADS. Nothing in Lean hashes anything: it is a label: what it is worth is what the hold of that sum in a sandbox is worth. -/
noncomputable def Tryz.pinned : Pinned := { name := "ytnlpakalcckaiaagreat", sum := "2ef1847222b6c565b8208bb8920f547a173a084177a9ae6e1ebe7e1ccbbea4ab", checked := Tryz.checked }
namespace Rows
def none {H : Type} : Left H := { results := [], args := [] }

/-- 'modcertlaw47.SignatureDigits': WHATEVER THE INPUT: true; the input reads as it did. -/
def signatureDigitsSpec : ChangeSpec := { name := "signatureDigits", fn := fun _ => fun
  | [d1, d2] => { results := [.lit (.bool true)], args := [d1, d2] }
  | _ => none }
def signatureDigitsRow : OpenClaim := { program := "ytnlpakalcckaiaagreat", sum := "2ef1847222b6c565b8208bb8920f547a173a084177a9ae6e1ebe7e1ccbbea4ab", func := "modcert/modcertlaw47.SignatureDigits", spec := "signatureDigits", inPlace := ["internal/abi.NoEscape", "internal/bytealg.MakeNoZero", "internal/bytealg.IndexByteString", "internal/bytealg.IndexString"], unfollowed := true, recurses := true, named := ["internal/bytealg.MaxLen"], apart := false }
def SignatureDigitsSaid : Prop := signatureDigitsRow.holds Tryz.pinned (OpenSpec.ofChange signatureDigitsSpec)

/-- ITS FALSE NEIGHBOUR: 'it returns false'. Refute it at one input. -/
def signatureDigitsWrong : ChangeSpec := { name := "signatureDigits", fn := fun _ => fun
  | [d1, d2] => { results := [.lit (.bool false)], args := [d1, d2] }
  | _ => none }
def SignatureDigitsWrongFalsely : Prop := signatureDigitsRow.holds Tryz.pinned (OpenSpec.ofChange signatureDigitsWrong)

/-- 'modcertlaw47.SignatureSigns': WHATEVER THE INPUT: true; the input reads as it did. -/
def signatureSignsSpec : ChangeSpec := { name := "signatureSigns", fn := fun _ => fun
  | [d1, d2, d3] => { results := [.lit (.bool true)], args := [d1, d2, d3] }
  | _ => none }
def signatureSignsRow : OpenClaim := { program := "ytnlpakalcckaiaagreat", sum := "2ef1847222b6c565b8208bb8920f547a173a084177a9ae6e1ebe7e1ccbbea4ab", func := "modcert/modcertlaw47.SignatureSigns", spec := "signatureSigns", inPlace := ["internal/abi.NoEscape", "internal/bytealg.MakeNoZero", "internal/bytealg.IndexByteString", "internal/bytealg.IndexString"], unfollowed := true, recurses := true, named := ["internal/bytealg.MaxLen"], apart := false }
def SignatureSignsSaid : Prop := signatureSignsRow.holds Tryz.pinned (OpenSpec.ofChange signatureSignsSpec)

/-- ITS FALSE NEIGHBOUR: 'it returns false'. Refute it at one input. -/
def signatureSignsWrong : ChangeSpec := { name := "signatureSigns", fn := fun _ => fun
  | [d1, d2, d3] => { results := [.lit (.bool false)], args := [d1, d2, d3] }
  | _ => none }
def SignatureSignsWrongFalsely : Prop := signatureSignsRow.holds Tryz.pinned (OpenSpec.ofChange signatureSignsWrong)

/-- 'modcertlaw47.SignatureVerifies': WHATEVER THE INPUT: true; the input reads as it did. -/
def signatureVerifiesSpec : ChangeSpec := { name := "signatureVerifies", fn := fun _ => fun
  | [d1, d2, d3] => { results := [.lit (.bool true)], args := [d1, d2, d3] }
  | _ => none }
def signatureVerifiesRow : OpenClaim := { program := "ytnlpakalcckaiaagreat", sum := "2ef1847222b6c565b8208bb8920f547a173a084177a9ae6e1ebe7e1ccbbea4ab", func := "modcert/modcertlaw47.SignatureVerifies", spec := "signatureVerifies", inPlace := ["internal/abi.NoEscape", "internal/bytealg.MakeNoZero", "internal/bytealg.IndexByteString", "internal/bytealg.IndexString"], unfollowed := true, recurses := true, named := ["internal/bytealg.MaxLen"], apart := false }
def SignatureVerifiesSaid : Prop := signatureVerifiesRow.holds Tryz.pinned (OpenSpec.ofChange signatureVerifiesSpec)

/-- ITS FALSE NEIGHBOUR: 'it returns false'. Refute it at one input. -/
def signatureVerifiesWrong : ChangeSpec := { name := "signatureVerifies", fn := fun _ => fun
  | [d1, d2, d3] => { results := [.lit (.bool false)], args := [d1, d2, d3] }
  | _ => none }
def SignatureVerifiesWrongFalsely : Prop := signatureVerifiesRow.holds Tryz.pinned (OpenSpec.ofChange signatureVerifiesWrong)

/-- 'modcertlaw47.SignatureBytes': WHATEVER THE INPUT: true; the input reads as it did. -/
def signatureBytesSpec : ChangeSpec := { name := "signatureBytes", fn := fun _ => fun
  | [d1, d2] => { results := [.lit (.bool true)], args := [d1, d2] }
  | _ => none }
def signatureBytesRow : OpenClaim := { program := "ytnlpakalcckaiaagreat", sum := "2ef1847222b6c565b8208bb8920f547a173a084177a9ae6e1ebe7e1ccbbea4ab", func := "modcert/modcertlaw47.SignatureBytes", spec := "signatureBytes", inPlace := ["internal/abi.NoEscape", "internal/bytealg.MakeNoZero", "internal/bytealg.IndexByteString", "internal/bytealg.IndexString"], unfollowed := true, recurses := true, named := ["internal/bytealg.MaxLen"], apart := false }
def SignatureBytesSaid : Prop := signatureBytesRow.holds Tryz.pinned (OpenSpec.ofChange signatureBytesSpec)

/-- ITS FALSE NEIGHBOUR: 'it returns false'. Refute it at one input. -/
def signatureBytesWrong : ChangeSpec := { name := "signatureBytes", fn := fun _ => fun
  | [d1, d2] => { results := [.lit (.bool false)], args := [d1, d2] }
  | _ => none }
def SignatureBytesWrongFalsely : Prop := signatureBytesRow.holds Tryz.pinned (OpenSpec.ofChange signatureBytesWrong)

/- THE SECOND FORM. 'bulk': how many values and letters a reading holds, each counted each time it is reached (what is shared counts as often as it is met; a slice's spare places count too). A statement '..UptoSaid' is the law's where the arguments, and the package variables that the reading takes, are together of bulk at most 1048576: NARROWER than '..Said'. Prove '..Said' where nothing that the law and all that it calls make is longer than what came in: it says more and counts as full. Else prove '..UptoSaid'. A law counts once. -/
mutual
def uptoBulk {H : Type} : DataW H → Nat
  | .lit (.string bytes) => bytes.length + 1
  | .lit _ => 1
  | .nil => 1
  | .ptr d => uptoBulk d + 1
  | .slice elems spare => uptoBulkAll elems + uptoBulkAll spare + 1
  | .agg parts => uptoBulkAll parts + 1
  | .iface _ d => uptoBulk d + 1
  | .map entries => uptoBulkEntries entries + 1
  | .held _ => 1
def uptoBulkAll {H : Type} : List (DataW H) → Nat
  | [] => 0
  | d :: r => uptoBulk d + uptoBulkAll r
def uptoBulkEntries {H : Type} : List (Lit × DataW H) → Nat
  | [] => 0
  | x :: r => uptoBulkEntry x + uptoBulkEntries r
def uptoBulkEntry {H : Type} : Lit × DataW H → Nat
  | (.string bytes, d) => bytes.length + uptoBulk d + 1
  | (_, d) => uptoBulk d + 1
 end
def uptoSmall : (H : Type) → List (DataW H) → Bool := fun _ ds => decide (uptoBulkAll ds ≤ 1048576)
def OpenSpec.upto (s : _root_.Go.ChangeSpec) : _root_.Go.OpenSpec := { _root_.Go.OpenSpec.ofChange s with cond := some uptoSmall }

/-- 'modcertlaw47.SignatureDigits', WHERE WHAT IT READS IS OF BULK AT MOST 1048576: true; the input reads as it did. -/
def signatureDigitsUptoRow : OpenClaim := { program := "ytnlpakalcckaiaagreat", sum := "2ef1847222b6c565b8208bb8920f547a173a084177a9ae6e1ebe7e1ccbbea4ab", func := "modcert/modcertlaw47.SignatureDigits", spec := "signatureDigits", inPlace := ["internal/abi.NoEscape", "internal/bytealg.MakeNoZero", "internal/bytealg.IndexByteString", "internal/bytealg.IndexString"], unfollowed := true, recurses := true, named := ["internal/bytealg.MaxLen"], apart := false, narrowed := true }
def SignatureDigitsUptoSaid : Prop := signatureDigitsUptoRow.holds Tryz.pinned (OpenSpec.upto signatureDigitsSpec)

/-- 'modcertlaw47.SignatureSigns', WHERE WHAT IT READS IS OF BULK AT MOST 1048576: true; the input reads as it did. -/
def signatureSignsUptoRow : OpenClaim := { program := "ytnlpakalcckaiaagreat", sum := "2ef1847222b6c565b8208bb8920f547a173a084177a9ae6e1ebe7e1ccbbea4ab", func := "modcert/modcertlaw47.SignatureSigns", spec := "signatureSigns", inPlace := ["internal/abi.NoEscape", "internal/bytealg.MakeNoZero", "internal/bytealg.IndexByteString", "internal/bytealg.IndexString"], unfollowed := true, recurses := true, named := ["internal/bytealg.MaxLen"], apart := false, narrowed := true }
def SignatureSignsUptoSaid : Prop := signatureSignsUptoRow.holds Tryz.pinned (OpenSpec.upto signatureSignsSpec)

/-- 'modcertlaw47.SignatureVerifies', WHERE WHAT IT READS IS OF BULK AT MOST 1048576: true; the input reads as it did. -/
def signatureVerifiesUptoRow : OpenClaim := { program := "ytnlpakalcckaiaagreat", sum := "2ef1847222b6c565b8208bb8920f547a173a084177a9ae6e1ebe7e1ccbbea4ab", func := "modcert/modcertlaw47.SignatureVerifies", spec := "signatureVerifies", inPlace := ["internal/abi.NoEscape", "internal/bytealg.MakeNoZero", "internal/bytealg.IndexByteString", "internal/bytealg.IndexString"], unfollowed := true, recurses := true, named := ["internal/bytealg.MaxLen"], apart := false, narrowed := true }
def SignatureVerifiesUptoSaid : Prop := signatureVerifiesUptoRow.holds Tryz.pinned (OpenSpec.upto signatureVerifiesSpec)

/-- 'modcertlaw47.SignatureBytes', WHERE WHAT IT READS IS OF BULK AT MOST 1048576: true; the input reads as it did. -/
def signatureBytesUptoRow : OpenClaim := { program := "ytnlpakalcckaiaagreat", sum := "2ef1847222b6c565b8208bb8920f547a173a084177a9ae6e1ebe7e1ccbbea4ab", func := "modcert/modcertlaw47.SignatureBytes", spec := "signatureBytes", inPlace := ["internal/abi.NoEscape", "internal/bytealg.MakeNoZero", "internal/bytealg.IndexByteString", "internal/bytealg.IndexString"], unfollowed := true, recurses := true, named := ["internal/bytealg.MaxLen"], apart := false, narrowed := true }
def SignatureBytesUptoSaid : Prop := signatureBytesUptoRow.holds Tryz.pinned (OpenSpec.upto signatureBytesSpec)

end Rows
end Go.Proofs.YtnlpakalcckaiaaGreat
