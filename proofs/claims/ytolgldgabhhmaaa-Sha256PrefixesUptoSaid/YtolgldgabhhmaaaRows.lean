/-
  No cell of these rows narrows 'for every input' (looked for: loops, veiled, ifaces, maps, wideKeys, modest, calm, conditions, laid).
  DERIVED. THE GIVEN ROWS OF THIS SEAT. 7 by the template 'for every input the law returns true; each argument reads behind the call as it read before'; 0 by the template 'total and deterministic' (their statements: YtolgldgabhhmaaaTotals.lean).
  GIVEN WITH THE SEED: the statements are not yours to turn. If you find one false, say at which input.
  Laid BY PROGRAM, IN A SANDBOX (cutbox-rows.mjs): the forced cells as the released guide's own fill.sh prints them over the translation b8d2bd9f7286e50d… (all of the seat's roots in one cut). By AI agents, Wed Nov 11 2026. No macro, syntax, notation, axiom, sorry.
-/
import Derived.Test.YtolgldgabhhmaaaChecked
import GoSem.Claim
import GoSem.ClaimJoined
import GoSem.ClaimMapViews
import Derived.JoinedTies
import Derived.KernelRfl
namespace Go.Proofs.Ytolgldgabhhmaaa
/- THE CELL 'sum', in the pinned program and in every row, IS THE sha256 OF THE DUMP (.gsa) THAT YtolgldgabhhmaaaProg.lean LOADS. Nothing in Lean hashes anything: it is a label: what it is worth is what the hold of that sum in a sandbox is worth. -/
noncomputable def Try.pinned : Pinned := { name := "ytolgldgabhhmaaa", sum := "b8d2bd9f7286e50d737b62e1fd3d9cdf9555f2e0fa85313661f7226088d31c36", checked := Try.checked }
namespace Rows
def none {H : Type} : Left H := { results := [], args := [] }

/-- 'modcertlaw01.Sha256Sums': WHATEVER THE INPUT: true; the input reads as it did. -/
def sha256SumsSpec : ChangeSpec := { name := "sha256Sums", fn := fun _ => fun
  | [d] => { results := [.lit (.bool true)], args := [d] }
  | _ => none }
def sha256SumsRow : OpenClaim := { program := "ytolgldgabhhmaaa", sum := "b8d2bd9f7286e50d737b62e1fd3d9cdf9555f2e0fa85313661f7226088d31c36", func := "modcert/modcertlaw01.Sha256Sums", spec := "sha256Sums", inPlace := ["internal/bytealg.IndexByteString", "internal/abi.NoEscape", "internal/bytealg.MakeNoZero"], unfollowed := true, recurses := true, apart := false }
def Sha256SumsSaid : Prop := sha256SumsRow.holds Try.pinned (OpenSpec.ofChange sha256SumsSpec)

/-- ITS FALSE NEIGHBOUR: 'it returns false'. Refute it at one input. -/
def sha256SumsWrong : ChangeSpec := { name := "sha256Sums", fn := fun _ => fun
  | [d] => { results := [.lit (.bool false)], args := [d] }
  | _ => none }
def Sha256SumsWrongFalsely : Prop := sha256SumsRow.holds Try.pinned (OpenSpec.ofChange sha256SumsWrong)

/-- 'modcertlaw01.Sha256Tags': WHATEVER THE INPUT: true; the input reads as it did. -/
def sha256TagsSpec : ChangeSpec := { name := "sha256Tags", fn := fun _ => fun
  | [d1, d2] => { results := [.lit (.bool true)], args := [d1, d2] }
  | _ => none }
def sha256TagsRow : OpenClaim := { program := "ytolgldgabhhmaaa", sum := "b8d2bd9f7286e50d737b62e1fd3d9cdf9555f2e0fa85313661f7226088d31c36", func := "modcert/modcertlaw01.Sha256Tags", spec := "sha256Tags", inPlace := ["internal/bytealg.IndexByteString", "internal/abi.NoEscape", "internal/bytealg.MakeNoZero"], unfollowed := true, recurses := true, apart := false }
def Sha256TagsSaid : Prop := sha256TagsRow.holds Try.pinned (OpenSpec.ofChange sha256TagsSpec)

/-- ITS FALSE NEIGHBOUR: 'it returns false'. Refute it at one input. -/
def sha256TagsWrong : ChangeSpec := { name := "sha256Tags", fn := fun _ => fun
  | [d1, d2] => { results := [.lit (.bool false)], args := [d1, d2] }
  | _ => none }
def Sha256TagsWrongFalsely : Prop := sha256TagsRow.holds Try.pinned (OpenSpec.ofChange sha256TagsWrong)

/-- 'modcertlaw01.Sha256Hexes': WHATEVER THE INPUT: true; the input reads as it did. -/
def sha256HexesSpec : ChangeSpec := { name := "sha256Hexes", fn := fun _ => fun
  | [d1, d2] => { results := [.lit (.bool true)], args := [d1, d2] }
  | _ => none }
def sha256HexesRow : OpenClaim := { program := "ytolgldgabhhmaaa", sum := "b8d2bd9f7286e50d737b62e1fd3d9cdf9555f2e0fa85313661f7226088d31c36", func := "modcert/modcertlaw01.Sha256Hexes", spec := "sha256Hexes", inPlace := ["internal/bytealg.IndexByteString", "internal/abi.NoEscape", "internal/bytealg.MakeNoZero"], unfollowed := true, recurses := true, apart := false }
def Sha256HexesSaid : Prop := sha256HexesRow.holds Try.pinned (OpenSpec.ofChange sha256HexesSpec)

/-- ITS FALSE NEIGHBOUR: 'it returns false'. Refute it at one input. -/
def sha256HexesWrong : ChangeSpec := { name := "sha256Hexes", fn := fun _ => fun
  | [d1, d2] => { results := [.lit (.bool false)], args := [d1, d2] }
  | _ => none }
def Sha256HexesWrongFalsely : Prop := sha256HexesRow.holds Try.pinned (OpenSpec.ofChange sha256HexesWrong)

/-- 'modcertlaw01.Sha256Returns': WHATEVER THE INPUT: true; the input reads as it did. -/
def sha256ReturnsSpec : ChangeSpec := { name := "sha256Returns", fn := fun _ => fun
  | [d1, d2, d3] => { results := [.lit (.bool true)], args := [d1, d2, d3] }
  | _ => none }
def sha256ReturnsRow : OpenClaim := { program := "ytolgldgabhhmaaa", sum := "b8d2bd9f7286e50d737b62e1fd3d9cdf9555f2e0fa85313661f7226088d31c36", func := "modcert/modcertlaw01.Sha256Returns", spec := "sha256Returns", inPlace := ["internal/bytealg.IndexByteString", "internal/abi.NoEscape", "internal/bytealg.MakeNoZero"], unfollowed := true, recurses := true, apart := false }
def Sha256ReturnsSaid : Prop := sha256ReturnsRow.holds Try.pinned (OpenSpec.ofChange sha256ReturnsSpec)

/-- ITS FALSE NEIGHBOUR: 'it returns false'. Refute it at one input. -/
def sha256ReturnsWrong : ChangeSpec := { name := "sha256Returns", fn := fun _ => fun
  | [d1, d2, d3] => { results := [.lit (.bool false)], args := [d1, d2, d3] }
  | _ => none }
def Sha256ReturnsWrongFalsely : Prop := sha256ReturnsRow.holds Try.pinned (OpenSpec.ofChange sha256ReturnsWrong)

/-- 'modcertlaw01.Sha256Clones': WHATEVER THE INPUT: true; the input reads as it did. -/
def sha256ClonesSpec : ChangeSpec := { name := "sha256Clones", fn := fun _ => fun
  | [d1, d2, d3] => { results := [.lit (.bool true)], args := [d1, d2, d3] }
  | _ => none }
def sha256ClonesRow : OpenClaim := { program := "ytolgldgabhhmaaa", sum := "b8d2bd9f7286e50d737b62e1fd3d9cdf9555f2e0fa85313661f7226088d31c36", func := "modcert/modcertlaw01.Sha256Clones", spec := "sha256Clones", inPlace := ["internal/bytealg.IndexByteString", "internal/abi.NoEscape", "internal/bytealg.MakeNoZero"], unfollowed := true, recurses := true, apart := false }
def Sha256ClonesSaid : Prop := sha256ClonesRow.holds Try.pinned (OpenSpec.ofChange sha256ClonesSpec)

/-- ITS FALSE NEIGHBOUR: 'it returns false'. Refute it at one input. -/
def sha256ClonesWrong : ChangeSpec := { name := "sha256Clones", fn := fun _ => fun
  | [d1, d2, d3] => { results := [.lit (.bool false)], args := [d1, d2, d3] }
  | _ => none }
def Sha256ClonesWrongFalsely : Prop := sha256ClonesRow.holds Try.pinned (OpenSpec.ofChange sha256ClonesWrong)

/-- 'modcertlaw01.Sha256Prefixes': WHATEVER THE INPUT: true; the input reads as it did. -/
def sha256PrefixesSpec : ChangeSpec := { name := "sha256Prefixes", fn := fun _ => fun
  | [d1, d2] => { results := [.lit (.bool true)], args := [d1, d2] }
  | _ => none }
def sha256PrefixesRow : OpenClaim := { program := "ytolgldgabhhmaaa", sum := "b8d2bd9f7286e50d737b62e1fd3d9cdf9555f2e0fa85313661f7226088d31c36", func := "modcert/modcertlaw01.Sha256Prefixes", spec := "sha256Prefixes", inPlace := ["internal/bytealg.IndexByteString", "internal/abi.NoEscape", "internal/bytealg.MakeNoZero"], unfollowed := true, recurses := true, apart := false }
def Sha256PrefixesSaid : Prop := sha256PrefixesRow.holds Try.pinned (OpenSpec.ofChange sha256PrefixesSpec)

/-- ITS FALSE NEIGHBOUR: 'it returns false'. Refute it at one input. -/
def sha256PrefixesWrong : ChangeSpec := { name := "sha256Prefixes", fn := fun _ => fun
  | [d1, d2] => { results := [.lit (.bool false)], args := [d1, d2] }
  | _ => none }
def Sha256PrefixesWrongFalsely : Prop := sha256PrefixesRow.holds Try.pinned (OpenSpec.ofChange sha256PrefixesWrong)

/-- 'modcertlaw01.Sha256Streams': WHATEVER THE INPUT: true; the input reads as it did. -/
def sha256StreamsSpec : ChangeSpec := { name := "sha256Streams", fn := fun _ => fun
  | [d1, d2] => { results := [.lit (.bool true)], args := [d1, d2] }
  | _ => none }
def sha256StreamsRow : OpenClaim := { program := "ytolgldgabhhmaaa", sum := "b8d2bd9f7286e50d737b62e1fd3d9cdf9555f2e0fa85313661f7226088d31c36", func := "modcert/modcertlaw01.Sha256Streams", spec := "sha256Streams", inPlace := ["internal/bytealg.IndexByteString", "internal/abi.NoEscape", "internal/bytealg.MakeNoZero"], unfollowed := true, recurses := true, apart := false }
def Sha256StreamsSaid : Prop := sha256StreamsRow.holds Try.pinned (OpenSpec.ofChange sha256StreamsSpec)

/-- ITS FALSE NEIGHBOUR: 'it returns false'. Refute it at one input. -/
def sha256StreamsWrong : ChangeSpec := { name := "sha256Streams", fn := fun _ => fun
  | [d1, d2] => { results := [.lit (.bool false)], args := [d1, d2] }
  | _ => none }
def Sha256StreamsWrongFalsely : Prop := sha256StreamsRow.holds Try.pinned (OpenSpec.ofChange sha256StreamsWrong)

/- THE SECOND FORM. 'bulk': how many values and letters a reading holds, each counted each time it is reached (what is shared counts as often as it is met; a slice's spare places count too). A statement '..UptoSaid' is the law's where the arguments, and the package variables that the reading takes, are together of bulk at most 1048576: NARROWER than '..Said'. Prove '..Said' where nothing that the law and all that it calls make is longer than what came in: it says more and counts as full. Else prove '..UptoSaid'. A law counts once. -/
mutual
def uptoBulk {H : Type} : DataW H → Nat
  | .lit (.string bytes) => bytes.length + 1
  | .lit _ => 1
  | .nil => 1
  | .ptr d => uptoBulk d + 1
  | .slice elems spare => uptoBulkAll elems + uptoBulkAll spare + 1
  | .agg parts => uptoBulkAll parts + 1
  | .iface _ d => uptoBulk d + 1
  | .map entries => uptoBulkEntries entries + 1
  | .held _ => 1
def uptoBulkAll {H : Type} : List (DataW H) → Nat
  | [] => 0
  | d :: r => uptoBulk d + uptoBulkAll r
def uptoBulkEntries {H : Type} : List (Lit × DataW H) → Nat
  | [] => 0
  | x :: r => uptoBulkEntry x + uptoBulkEntries r
def uptoBulkEntry {H : Type} : Lit × DataW H → Nat
  | (.string bytes, d) => bytes.length + uptoBulk d + 1
  | (_, d) => uptoBulk d + 1
 end
def uptoSmall : (H : Type) → List (DataW H) → Bool := fun _ ds => decide (uptoBulkAll ds ≤ 1048576)
def OpenSpec.upto (s : _root_.Go.ChangeSpec) : _root_.Go.OpenSpec := { _root_.Go.OpenSpec.ofChange s with cond := some uptoSmall }

/-- 'modcertlaw01.Sha256Sums', WHERE WHAT IT READS IS OF BULK AT MOST 1048576: true; the input reads as it did. -/
def sha256SumsUptoRow : OpenClaim := { program := "ytolgldgabhhmaaa", sum := "b8d2bd9f7286e50d737b62e1fd3d9cdf9555f2e0fa85313661f7226088d31c36", func := "modcert/modcertlaw01.Sha256Sums", spec := "sha256Sums", inPlace := ["internal/bytealg.IndexByteString", "internal/abi.NoEscape", "internal/bytealg.MakeNoZero"], unfollowed := true, recurses := true, apart := false, narrowed := true }
def Sha256SumsUptoSaid : Prop := sha256SumsUptoRow.holds Try.pinned (OpenSpec.upto sha256SumsSpec)

/-- 'modcertlaw01.Sha256Tags', WHERE WHAT IT READS IS OF BULK AT MOST 1048576: true; the input reads as it did. -/
def sha256TagsUptoRow : OpenClaim := { program := "ytolgldgabhhmaaa", sum := "b8d2bd9f7286e50d737b62e1fd3d9cdf9555f2e0fa85313661f7226088d31c36", func := "modcert/modcertlaw01.Sha256Tags", spec := "sha256Tags", inPlace := ["internal/bytealg.IndexByteString", "internal/abi.NoEscape", "internal/bytealg.MakeNoZero"], unfollowed := true, recurses := true, apart := false, narrowed := true }
def Sha256TagsUptoSaid : Prop := sha256TagsUptoRow.holds Try.pinned (OpenSpec.upto sha256TagsSpec)

/-- 'modcertlaw01.Sha256Hexes', WHERE WHAT IT READS IS OF BULK AT MOST 1048576: true; the input reads as it did. -/
def sha256HexesUptoRow : OpenClaim := { program := "ytolgldgabhhmaaa", sum := "b8d2bd9f7286e50d737b62e1fd3d9cdf9555f2e0fa85313661f7226088d31c36", func := "modcert/modcertlaw01.Sha256Hexes", spec := "sha256Hexes", inPlace := ["internal/bytealg.IndexByteString", "internal/abi.NoEscape", "internal/bytealg.MakeNoZero"], unfollowed := true, recurses := true, apart := false, narrowed := true }
def Sha256HexesUptoSaid : Prop := sha256HexesUptoRow.holds Try.pinned (OpenSpec.upto sha256HexesSpec)

/-- 'modcertlaw01.Sha256Returns', WHERE WHAT IT READS IS OF BULK AT MOST 1048576: true; the input reads as it did. -/
def sha256ReturnsUptoRow : OpenClaim := { program := "ytolgldgabhhmaaa", sum := "b8d2bd9f7286e50d737b62e1fd3d9cdf9555f2e0fa85313661f7226088d31c36", func := "modcert/modcertlaw01.Sha256Returns", spec := "sha256Returns", inPlace := ["internal/bytealg.IndexByteString", "internal/abi.NoEscape", "internal/bytealg.MakeNoZero"], unfollowed := true, recurses := true, apart := false, narrowed := true }
def Sha256ReturnsUptoSaid : Prop := sha256ReturnsUptoRow.holds Try.pinned (OpenSpec.upto sha256ReturnsSpec)

/-- 'modcertlaw01.Sha256Clones', WHERE WHAT IT READS IS OF BULK AT MOST 1048576: true; the input reads as it did. -/
def sha256ClonesUptoRow : OpenClaim := { program := "ytolgldgabhhmaaa", sum := "b8d2bd9f7286e50d737b62e1fd3d9cdf9555f2e0fa85313661f7226088d31c36", func := "modcert/modcertlaw01.Sha256Clones", spec := "sha256Clones", inPlace := ["internal/bytealg.IndexByteString", "internal/abi.NoEscape", "internal/bytealg.MakeNoZero"], unfollowed := true, recurses := true, apart := false, narrowed := true }
def Sha256ClonesUptoSaid : Prop := sha256ClonesUptoRow.holds Try.pinned (OpenSpec.upto sha256ClonesSpec)

/-- 'modcertlaw01.Sha256Prefixes', WHERE WHAT IT READS IS OF BULK AT MOST 1048576: true; the input reads as it did. -/
def sha256PrefixesUptoRow : OpenClaim := { program := "ytolgldgabhhmaaa", sum := "b8d2bd9f7286e50d737b62e1fd3d9cdf9555f2e0fa85313661f7226088d31c36", func := "modcert/modcertlaw01.Sha256Prefixes", spec := "sha256Prefixes", inPlace := ["internal/bytealg.IndexByteString", "internal/abi.NoEscape", "internal/bytealg.MakeNoZero"], unfollowed := true, recurses := true, apart := false, narrowed := true }
def Sha256PrefixesUptoSaid : Prop := sha256PrefixesUptoRow.holds Try.pinned (OpenSpec.upto sha256PrefixesSpec)

/-- 'modcertlaw01.Sha256Streams', WHERE WHAT IT READS IS OF BULK AT MOST 1048576: true; the input reads as it did. -/
def sha256StreamsUptoRow : OpenClaim := { program := "ytolgldgabhhmaaa", sum := "b8d2bd9f7286e50d737b62e1fd3d9cdf9555f2e0fa85313661f7226088d31c36", func := "modcert/modcertlaw01.Sha256Streams", spec := "sha256Streams", inPlace := ["internal/bytealg.IndexByteString", "internal/abi.NoEscape", "internal/bytealg.MakeNoZero"], unfollowed := true, recurses := true, apart := false, narrowed := true }
def Sha256StreamsUptoSaid : Prop := sha256StreamsUptoRow.holds Try.pinned (OpenSpec.upto sha256StreamsSpec)

end Rows
end Go.Proofs.Ytolgldgabhhmaaa
