/-
  No cell of these rows narrows 'for every input' (looked for: loops, veiled, ifaces, maps, wideKeys, modest, calm, conditions, laid).
  DERIVED. THE GIVEN ROWS OF THIS SEAT. 3 by the template 'for every input the law returns true; each argument reads behind the call as it read before'; 0 by the template 'total and deterministic' (their statements: YtnlpakalcckaiaaTotals.lean).
  GIVEN WITH THE SEED: the statements are not yours to turn. If you find one false, say at which input.
  Laid BY PROGRAM, IN A SANDBOX (cutbox-rows.mjs): the forced cells as the released guide's own fill.sh prints them over the translation dda571360ebb7fc8… (all of the seat's roots in one cut). By AI agents, Wed Nov 11 2026. No macro, syntax, notation, axiom, sorry.
-/
import Derived.Test.YtnlpakalcckaiaaChecked
import GoSem.Claim
import GoSem.ClaimJoined
import GoSem.ClaimMapViews
import Derived.JoinedTies
import Derived.KernelRfl
namespace Go.Proofs.Ytnlpakalcckaiaa
/- THE CELL 'sum', in the pinned program and in every row, IS THE sha256 OF THE DUMP (.gsa) THAT YtnlpakalcckaiaaProg.lean LOADS. Nothing in Lean hashes anything: it is a label: what it is worth is what the hold of that sum in a sandbox is worth. -/
noncomputable def Try.pinned : Pinned := { name := "ytnlpakalcckaiaa", sum := "dda571360ebb7fc8887036265ce58e824a2d9b79a7d52b9925d82f573c592d3d", checked := Try.checked }
namespace Rows
def none {H : Type} : Left H := { results := [], args := [] }

/-- 'modcertlaw47.SignatureAccepts': WHATEVER THE INPUT: true; the input reads as it did. -/
def signatureAcceptsSpec : ChangeSpec := { name := "signatureAccepts", fn := fun _ => fun
  | [d1, d2, d3, d4] => { results := [.lit (.bool true)], args := [d1, d2, d3, d4] }
  | _ => none }
def signatureAcceptsRow : OpenClaim := { program := "ytnlpakalcckaiaa", sum := "dda571360ebb7fc8887036265ce58e824a2d9b79a7d52b9925d82f573c592d3d", func := "modcert/modcertlaw47.SignatureAccepts", spec := "signatureAccepts", inPlace := ["internal/abi.NoEscape", "internal/bytealg.MakeNoZero", "internal/bytealg.IndexByteString", "internal/bytealg.IndexString"], unfollowed := true, recurses := true, named := ["internal/bytealg.MaxLen"], apart := false }
def SignatureAcceptsSaid : Prop := signatureAcceptsRow.holds Try.pinned (OpenSpec.ofChange signatureAcceptsSpec)

/-- ITS FALSE NEIGHBOUR: 'it returns false'. Refute it at one input. -/
def signatureAcceptsWrong : ChangeSpec := { name := "signatureAccepts", fn := fun _ => fun
  | [d1, d2, d3, d4] => { results := [.lit (.bool false)], args := [d1, d2, d3, d4] }
  | _ => none }
def SignatureAcceptsWrongFalsely : Prop := signatureAcceptsRow.holds Try.pinned (OpenSpec.ofChange signatureAcceptsWrong)

/-- 'modcertlaw47.SignatureOnce': WHATEVER THE INPUT: true; the input reads as it did. -/
def signatureOnceSpec : ChangeSpec := { name := "signatureOnce", fn := fun _ => fun
  | [d1, d2, d3] => { results := [.lit (.bool true)], args := [d1, d2, d3] }
  | _ => none }
def signatureOnceRow : OpenClaim := { program := "ytnlpakalcckaiaa", sum := "dda571360ebb7fc8887036265ce58e824a2d9b79a7d52b9925d82f573c592d3d", func := "modcert/modcertlaw47.SignatureOnce", spec := "signatureOnce", inPlace := ["internal/abi.NoEscape", "internal/bytealg.MakeNoZero", "internal/bytealg.IndexByteString", "internal/bytealg.IndexString"], unfollowed := true, recurses := true, named := ["internal/bytealg.MaxLen"], apart := false }
def SignatureOnceSaid : Prop := signatureOnceRow.holds Try.pinned (OpenSpec.ofChange signatureOnceSpec)

/-- ITS FALSE NEIGHBOUR: 'it returns false'. Refute it at one input. -/
def signatureOnceWrong : ChangeSpec := { name := "signatureOnce", fn := fun _ => fun
  | [d1, d2, d3] => { results := [.lit (.bool false)], args := [d1, d2, d3] }
  | _ => none }
def SignatureOnceWrongFalsely : Prop := signatureOnceRow.holds Try.pinned (OpenSpec.ofChange signatureOnceWrong)

/-- 'modcertlaw47.SignatureForms': WHATEVER THE INPUT: true; the input reads as it did. -/
def signatureFormsSpec : ChangeSpec := { name := "signatureForms", fn := fun _ => fun
  | [d1, d2, d3, d4] => { results := [.lit (.bool true)], args := [d1, d2, d3, d4] }
  | _ => none }
def signatureFormsRow : OpenClaim := { program := "ytnlpakalcckaiaa", sum := "dda571360ebb7fc8887036265ce58e824a2d9b79a7d52b9925d82f573c592d3d", func := "modcert/modcertlaw47.SignatureForms", spec := "signatureForms", inPlace := ["internal/abi.NoEscape", "internal/bytealg.MakeNoZero", "internal/bytealg.IndexByteString", "internal/bytealg.IndexString"], unfollowed := true, recurses := true, named := ["internal/bytealg.MaxLen"], apart := false }
def SignatureFormsSaid : Prop := signatureFormsRow.holds Try.pinned (OpenSpec.ofChange signatureFormsSpec)

/-- ITS FALSE NEIGHBOUR: 'it returns false'. Refute it at one input. -/
def signatureFormsWrong : ChangeSpec := { name := "signatureForms", fn := fun _ => fun
  | [d1, d2, d3, d4] => { results := [.lit (.bool false)], args := [d1, d2, d3, d4] }
  | _ => none }
def SignatureFormsWrongFalsely : Prop := signatureFormsRow.holds Try.pinned (OpenSpec.ofChange signatureFormsWrong)

/- THE SECOND FORM. 'bulk': how many values and letters a reading holds, each counted each time it is reached (what is shared counts as often as it is met; a slice's spare places count too). A statement '..UptoSaid' is the law's where the arguments, and the package variables that the reading takes, are together of bulk at most 1048576: NARROWER than '..Said'. Prove '..Said' where nothing that the law and all that it calls make is longer than what came in: it says more and counts as full. Else prove '..UptoSaid'. A law counts once. -/
mutual
def uptoBulk {H : Type} : DataW H → Nat
  | .lit (.string bytes) => bytes.length + 1
  | .lit _ => 1
  | .nil => 1
  | .ptr d => uptoBulk d + 1
  | .slice elems spare => uptoBulkAll elems + uptoBulkAll spare + 1
  | .agg parts => uptoBulkAll parts + 1
  | .iface _ d => uptoBulk d + 1
  | .map entries => uptoBulkEntries entries + 1
  | .held _ => 1
def uptoBulkAll {H : Type} : List (DataW H) → Nat
  | [] => 0
  | d :: r => uptoBulk d + uptoBulkAll r
def uptoBulkEntries {H : Type} : List (Lit × DataW H) → Nat
  | [] => 0
  | x :: r => uptoBulkEntry x + uptoBulkEntries r
def uptoBulkEntry {H : Type} : Lit × DataW H → Nat
  | (.string bytes, d) => bytes.length + uptoBulk d + 1
  | (_, d) => uptoBulk d + 1
 end
def uptoSmall : (H : Type) → List (DataW H) → Bool := fun _ ds => decide (uptoBulkAll ds ≤ 1048576)
def OpenSpec.upto (s : _root_.Go.ChangeSpec) : _root_.Go.OpenSpec := { _root_.Go.OpenSpec.ofChange s with cond := some uptoSmall }

/-- 'modcertlaw47.SignatureAccepts', WHERE WHAT IT READS IS OF BULK AT MOST 1048576: true; the input reads as it did. -/
def signatureAcceptsUptoRow : OpenClaim := { program := "ytnlpakalcckaiaa", sum := "dda571360ebb7fc8887036265ce58e824a2d9b79a7d52b9925d82f573c592d3d", func := "modcert/modcertlaw47.SignatureAccepts", spec := "signatureAccepts", inPlace := ["internal/abi.NoEscape", "internal/bytealg.MakeNoZero", "internal/bytealg.IndexByteString", "internal/bytealg.IndexString"], unfollowed := true, recurses := true, named := ["internal/bytealg.MaxLen"], apart := false, narrowed := true }
def SignatureAcceptsUptoSaid : Prop := signatureAcceptsUptoRow.holds Try.pinned (OpenSpec.upto signatureAcceptsSpec)

/-- 'modcertlaw47.SignatureOnce', WHERE WHAT IT READS IS OF BULK AT MOST 1048576: true; the input reads as it did. -/
def signatureOnceUptoRow : OpenClaim := { program := "ytnlpakalcckaiaa", sum := "dda571360ebb7fc8887036265ce58e824a2d9b79a7d52b9925d82f573c592d3d", func := "modcert/modcertlaw47.SignatureOnce", spec := "signatureOnce", inPlace := ["internal/abi.NoEscape", "internal/bytealg.MakeNoZero", "internal/bytealg.IndexByteString", "internal/bytealg.IndexString"], unfollowed := true, recurses := true, named := ["internal/bytealg.MaxLen"], apart := false, narrowed := true }
def SignatureOnceUptoSaid : Prop := signatureOnceUptoRow.holds Try.pinned (OpenSpec.upto signatureOnceSpec)

/-- 'modcertlaw47.SignatureForms', WHERE WHAT IT READS IS OF BULK AT MOST 1048576: true; the input reads as it did. -/
def signatureFormsUptoRow : OpenClaim := { program := "ytnlpakalcckaiaa", sum := "dda571360ebb7fc8887036265ce58e824a2d9b79a7d52b9925d82f573c592d3d", func := "modcert/modcertlaw47.SignatureForms", spec := "signatureForms", inPlace := ["internal/abi.NoEscape", "internal/bytealg.MakeNoZero", "internal/bytealg.IndexByteString", "internal/bytealg.IndexString"], unfollowed := true, recurses := true, named := ["internal/bytealg.MaxLen"], apart := false, narrowed := true }
def SignatureFormsUptoSaid : Prop := signatureFormsUptoRow.holds Try.pinned (OpenSpec.upto signatureFormsSpec)

end Rows
end Go.Proofs.Ytnlpakalcckaiaa
