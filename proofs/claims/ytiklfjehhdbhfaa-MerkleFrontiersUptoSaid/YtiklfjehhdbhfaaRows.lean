/-
  No cell of these rows narrows 'for every input' (looked for: loops, veiled, ifaces, maps, wideKeys, modest, calm, conditions, laid).
  DERIVED. THE GIVEN ROWS OF THIS SEAT. 6 by the template 'for every input the law returns true; each argument reads behind the call as it read before'; 0 by the template 'total and deterministic' (their statements: YtiklfjehhdbhfaaTotals.lean).
  GIVEN WITH THE SEED: the statements are not yours to turn. If you find one false, say at which input.
  Laid BY PROGRAM, IN A SANDBOX (cutbox-rows.mjs): the forced cells as the released guide's own fill.sh prints them over the translation 239be3d6fb4d70ef… (all of the seat's roots in one cut). By AI agents, Wed Nov 11 2026. No macro, syntax, notation, axiom, sorry.
-/
import Derived.Test.YtiklfjehhdbhfaaChecked
import GoSem.Claim
import GoSem.ClaimJoined
import GoSem.ClaimMapViews
import Derived.JoinedTies
import Derived.KernelRfl
namespace Go.Proofs.Ytiklfjehhdbhfaa
/- THE CELL 'sum', in the pinned program and in every row, IS THE sha256 OF THE DUMP (.gsa) THAT YtiklfjehhdbhfaaProg.lean LOADS. Nothing in Lean hashes anything: it is a label: what it is worth is what the hold of that sum in a sandbox is worth. -/
noncomputable def Try.pinned : Pinned := { name := "ytiklfjehhdbhfaa", sum := "239be3d6fb4d70effb2dc49be1317aab761d5aad6d4bac554bc0416c93cbff0e", checked := Try.checked }
namespace Rows
def none {H : Type} : Left H := { results := [], args := [] }

/-- 'modcertlaw46.MerkleHashes': WHATEVER THE INPUT: true; the input reads as it did. -/
def merkleHashesSpec : ChangeSpec := { name := "merkleHashes", fn := fun _ => fun
  | [d1, d2, d3, d4, d5] => { results := [.lit (.bool true)], args := [d1, d2, d3, d4, d5] }
  | _ => none }
def merkleHashesRow : OpenClaim := { program := "ytiklfjehhdbhfaa", sum := "239be3d6fb4d70effb2dc49be1317aab761d5aad6d4bac554bc0416c93cbff0e", func := "modcert/modcertlaw46.MerkleHashes", spec := "merkleHashes", inPlace := ["internal/abi.NoEscape", "internal/bytealg.MakeNoZero"], unfollowed := true, recurses := true, apart := false }
def MerkleHashesSaid : Prop := merkleHashesRow.holds Try.pinned (OpenSpec.ofChange merkleHashesSpec)

/-- ITS FALSE NEIGHBOUR: 'it returns false'. Refute it at one input. -/
def merkleHashesWrong : ChangeSpec := { name := "merkleHashes", fn := fun _ => fun
  | [d1, d2, d3, d4, d5] => { results := [.lit (.bool false)], args := [d1, d2, d3, d4, d5] }
  | _ => none }
def MerkleHashesWrongFalsely : Prop := merkleHashesRow.holds Try.pinned (OpenSpec.ofChange merkleHashesWrong)

/-- 'modcertlaw46.MerkleFrontiers': WHATEVER THE INPUT: true; the input reads as it did. -/
def merkleFrontiersSpec : ChangeSpec := { name := "merkleFrontiers", fn := fun _ => fun
  | [d1, d2] => { results := [.lit (.bool true)], args := [d1, d2] }
  | _ => none }
def merkleFrontiersRow : OpenClaim := { program := "ytiklfjehhdbhfaa", sum := "239be3d6fb4d70effb2dc49be1317aab761d5aad6d4bac554bc0416c93cbff0e", func := "modcert/modcertlaw46.MerkleFrontiers", spec := "merkleFrontiers", inPlace := ["internal/abi.NoEscape", "internal/bytealg.MakeNoZero"], unfollowed := true, recurses := true, apart := false }
def MerkleFrontiersSaid : Prop := merkleFrontiersRow.holds Try.pinned (OpenSpec.ofChange merkleFrontiersSpec)

/-- ITS FALSE NEIGHBOUR: 'it returns false'. Refute it at one input. -/
def merkleFrontiersWrong : ChangeSpec := { name := "merkleFrontiers", fn := fun _ => fun
  | [d1, d2] => { results := [.lit (.bool false)], args := [d1, d2] }
  | _ => none }
def MerkleFrontiersWrongFalsely : Prop := merkleFrontiersRow.holds Try.pinned (OpenSpec.ofChange merkleFrontiersWrong)

/-- 'modcertlaw46.MerkleIncludes': WHATEVER THE INPUT: true; the input reads as it did. -/
def merkleIncludesSpec : ChangeSpec := { name := "merkleIncludes", fn := fun _ => fun
  | [d1, d2] => { results := [.lit (.bool true)], args := [d1, d2] }
  | _ => none }
def merkleIncludesRow : OpenClaim := { program := "ytiklfjehhdbhfaa", sum := "239be3d6fb4d70effb2dc49be1317aab761d5aad6d4bac554bc0416c93cbff0e", func := "modcert/modcertlaw46.MerkleIncludes", spec := "merkleIncludes", inPlace := ["internal/abi.NoEscape", "internal/bytealg.MakeNoZero"], unfollowed := true, recurses := true, apart := false }
def MerkleIncludesSaid : Prop := merkleIncludesRow.holds Try.pinned (OpenSpec.ofChange merkleIncludesSpec)

/-- ITS FALSE NEIGHBOUR: 'it returns false'. Refute it at one input. -/
def merkleIncludesWrong : ChangeSpec := { name := "merkleIncludes", fn := fun _ => fun
  | [d1, d2] => { results := [.lit (.bool false)], args := [d1, d2] }
  | _ => none }
def MerkleIncludesWrongFalsely : Prop := merkleIncludesRow.holds Try.pinned (OpenSpec.ofChange merkleIncludesWrong)

/-- 'modcertlaw46.MerkleExtends': WHATEVER THE INPUT: true; the input reads as it did. -/
def merkleExtendsSpec : ChangeSpec := { name := "merkleExtends", fn := fun _ => fun
  | [d1, d2] => { results := [.lit (.bool true)], args := [d1, d2] }
  | _ => none }
def merkleExtendsRow : OpenClaim := { program := "ytiklfjehhdbhfaa", sum := "239be3d6fb4d70effb2dc49be1317aab761d5aad6d4bac554bc0416c93cbff0e", func := "modcert/modcertlaw46.MerkleExtends", spec := "merkleExtends", inPlace := ["internal/abi.NoEscape", "internal/bytealg.MakeNoZero"], unfollowed := true, recurses := true, apart := false }
def MerkleExtendsSaid : Prop := merkleExtendsRow.holds Try.pinned (OpenSpec.ofChange merkleExtendsSpec)

/-- ITS FALSE NEIGHBOUR: 'it returns false'. Refute it at one input. -/
def merkleExtendsWrong : ChangeSpec := { name := "merkleExtends", fn := fun _ => fun
  | [d1, d2] => { results := [.lit (.bool false)], args := [d1, d2] }
  | _ => none }
def MerkleExtendsWrongFalsely : Prop := merkleExtendsRow.holds Try.pinned (OpenSpec.ofChange merkleExtendsWrong)

/-- 'modcertlaw46.MerkleGrows': WHATEVER THE INPUT: true; the input reads as it did. -/
def merkleGrowsSpec : ChangeSpec := { name := "merkleGrows", fn := fun _ => fun
  | [d] => { results := [.lit (.bool true)], args := [d] }
  | _ => none }
def merkleGrowsRow : OpenClaim := { program := "ytiklfjehhdbhfaa", sum := "239be3d6fb4d70effb2dc49be1317aab761d5aad6d4bac554bc0416c93cbff0e", func := "modcert/modcertlaw46.MerkleGrows", spec := "merkleGrows", inPlace := ["internal/abi.NoEscape", "internal/bytealg.MakeNoZero"], unfollowed := true, recurses := true, apart := false }
def MerkleGrowsSaid : Prop := merkleGrowsRow.holds Try.pinned (OpenSpec.ofChange merkleGrowsSpec)

/-- ITS FALSE NEIGHBOUR: 'it returns false'. Refute it at one input. -/
def merkleGrowsWrong : ChangeSpec := { name := "merkleGrows", fn := fun _ => fun
  | [d] => { results := [.lit (.bool false)], args := [d] }
  | _ => none }
def MerkleGrowsWrongFalsely : Prop := merkleGrowsRow.holds Try.pinned (OpenSpec.ofChange merkleGrowsWrong)

/-- 'modcertlaw46.MerkleStays': WHATEVER THE INPUT: true; the input reads as it did. -/
def merkleStaysSpec : ChangeSpec := { name := "merkleStays", fn := fun _ => fun
  | [d1, d2, d3, d4] => { results := [.lit (.bool true)], args := [d1, d2, d3, d4] }
  | _ => none }
def merkleStaysRow : OpenClaim := { program := "ytiklfjehhdbhfaa", sum := "239be3d6fb4d70effb2dc49be1317aab761d5aad6d4bac554bc0416c93cbff0e", func := "modcert/modcertlaw46.MerkleStays", spec := "merkleStays", inPlace := ["internal/abi.NoEscape", "internal/bytealg.MakeNoZero"], unfollowed := true, recurses := true, apart := false }
def MerkleStaysSaid : Prop := merkleStaysRow.holds Try.pinned (OpenSpec.ofChange merkleStaysSpec)

/-- ITS FALSE NEIGHBOUR: 'it returns false'. Refute it at one input. -/
def merkleStaysWrong : ChangeSpec := { name := "merkleStays", fn := fun _ => fun
  | [d1, d2, d3, d4] => { results := [.lit (.bool false)], args := [d1, d2, d3, d4] }
  | _ => none }
def MerkleStaysWrongFalsely : Prop := merkleStaysRow.holds Try.pinned (OpenSpec.ofChange merkleStaysWrong)

/- THE SECOND FORM. 'bulk': how many values and letters a reading holds, each counted each time it is reached (what is shared counts as often as it is met; a slice's spare places count too). A statement '..UptoSaid' is the law's where the arguments, and the package variables that the reading takes, are together of bulk at most 1048576: NARROWER than '..Said'. Prove '..Said' where nothing that the law and all that it calls make is longer than what came in: it says more and counts as full. Else prove '..UptoSaid'. A law counts once. -/
mutual
def uptoBulk {H : Type} : DataW H → Nat
  | .lit (.string bytes) => bytes.length + 1
  | .lit _ => 1
  | .nil => 1
  | .ptr d => uptoBulk d + 1
  | .slice elems spare => uptoBulkAll elems + uptoBulkAll spare + 1
  | .agg parts => uptoBulkAll parts + 1
  | .iface _ d => uptoBulk d + 1
  | .map entries => uptoBulkEntries entries + 1
  | .held _ => 1
def uptoBulkAll {H : Type} : List (DataW H) → Nat
  | [] => 0
  | d :: r => uptoBulk d + uptoBulkAll r
def uptoBulkEntries {H : Type} : List (Lit × DataW H) → Nat
  | [] => 0
  | x :: r => uptoBulkEntry x + uptoBulkEntries r
def uptoBulkEntry {H : Type} : Lit × DataW H → Nat
  | (.string bytes, d) => bytes.length + uptoBulk d + 1
  | (_, d) => uptoBulk d + 1
 end
def uptoSmall : (H : Type) → List (DataW H) → Bool := fun _ ds => decide (uptoBulkAll ds ≤ 1048576)
def OpenSpec.upto (s : _root_.Go.ChangeSpec) : _root_.Go.OpenSpec := { _root_.Go.OpenSpec.ofChange s with cond := some uptoSmall }

/-- 'modcertlaw46.MerkleHashes', WHERE WHAT IT READS IS OF BULK AT MOST 1048576: true; the input reads as it did. -/
def merkleHashesUptoRow : OpenClaim := { program := "ytiklfjehhdbhfaa", sum := "239be3d6fb4d70effb2dc49be1317aab761d5aad6d4bac554bc0416c93cbff0e", func := "modcert/modcertlaw46.MerkleHashes", spec := "merkleHashes", inPlace := ["internal/abi.NoEscape", "internal/bytealg.MakeNoZero"], unfollowed := true, recurses := true, apart := false, narrowed := true }
def MerkleHashesUptoSaid : Prop := merkleHashesUptoRow.holds Try.pinned (OpenSpec.upto merkleHashesSpec)

/-- 'modcertlaw46.MerkleFrontiers', WHERE WHAT IT READS IS OF BULK AT MOST 1048576: true; the input reads as it did. -/
def merkleFrontiersUptoRow : OpenClaim := { program := "ytiklfjehhdbhfaa", sum := "239be3d6fb4d70effb2dc49be1317aab761d5aad6d4bac554bc0416c93cbff0e", func := "modcert/modcertlaw46.MerkleFrontiers", spec := "merkleFrontiers", inPlace := ["internal/abi.NoEscape", "internal/bytealg.MakeNoZero"], unfollowed := true, recurses := true, apart := false, narrowed := true }
def MerkleFrontiersUptoSaid : Prop := merkleFrontiersUptoRow.holds Try.pinned (OpenSpec.upto merkleFrontiersSpec)

/-- 'modcertlaw46.MerkleIncludes', WHERE WHAT IT READS IS OF BULK AT MOST 1048576: true; the input reads as it did. -/
def merkleIncludesUptoRow : OpenClaim := { program := "ytiklfjehhdbhfaa", sum := "239be3d6fb4d70effb2dc49be1317aab761d5aad6d4bac554bc0416c93cbff0e", func := "modcert/modcertlaw46.MerkleIncludes", spec := "merkleIncludes", inPlace := ["internal/abi.NoEscape", "internal/bytealg.MakeNoZero"], unfollowed := true, recurses := true, apart := false, narrowed := true }
def MerkleIncludesUptoSaid : Prop := merkleIncludesUptoRow.holds Try.pinned (OpenSpec.upto merkleIncludesSpec)

/-- 'modcertlaw46.MerkleExtends', WHERE WHAT IT READS IS OF BULK AT MOST 1048576: true; the input reads as it did. -/
def merkleExtendsUptoRow : OpenClaim := { program := "ytiklfjehhdbhfaa", sum := "239be3d6fb4d70effb2dc49be1317aab761d5aad6d4bac554bc0416c93cbff0e", func := "modcert/modcertlaw46.MerkleExtends", spec := "merkleExtends", inPlace := ["internal/abi.NoEscape", "internal/bytealg.MakeNoZero"], unfollowed := true, recurses := true, apart := false, narrowed := true }
def MerkleExtendsUptoSaid : Prop := merkleExtendsUptoRow.holds Try.pinned (OpenSpec.upto merkleExtendsSpec)

/-- 'modcertlaw46.MerkleGrows', WHERE WHAT IT READS IS OF BULK AT MOST 1048576: true; the input reads as it did. -/
def merkleGrowsUptoRow : OpenClaim := { program := "ytiklfjehhdbhfaa", sum := "239be3d6fb4d70effb2dc49be1317aab761d5aad6d4bac554bc0416c93cbff0e", func := "modcert/modcertlaw46.MerkleGrows", spec := "merkleGrows", inPlace := ["internal/abi.NoEscape", "internal/bytealg.MakeNoZero"], unfollowed := true, recurses := true, apart := false, narrowed := true }
def MerkleGrowsUptoSaid : Prop := merkleGrowsUptoRow.holds Try.pinned (OpenSpec.upto merkleGrowsSpec)

/-- 'modcertlaw46.MerkleStays', WHERE WHAT IT READS IS OF BULK AT MOST 1048576: true; the input reads as it did. -/
def merkleStaysUptoRow : OpenClaim := { program := "ytiklfjehhdbhfaa", sum := "239be3d6fb4d70effb2dc49be1317aab761d5aad6d4bac554bc0416c93cbff0e", func := "modcert/modcertlaw46.MerkleStays", spec := "merkleStays", inPlace := ["internal/abi.NoEscape", "internal/bytealg.MakeNoZero"], unfollowed := true, recurses := true, apart := false, narrowed := true }
def MerkleStaysUptoSaid : Prop := merkleStaysUptoRow.holds Try.pinned (OpenSpec.upto merkleStaysSpec)

end Rows
end Go.Proofs.Ytiklfjehhdbhfaa
