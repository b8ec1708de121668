/-
  No cell of these rows narrows 'for every input' (looked for: loops, veiled, ifaces, maps, wideKeys, modest, calm, conditions, laid).
  DERIVED. THE GIVEN ROWS OF THIS SEAT. 8 by the template 'for every input the law returns true; each argument reads behind the call as it read before'; 0 by the template 'total and deterministic' (their statements: YtjjpdnpbhdcpbaaGreatTotals.lean).
  GIVEN WITH THE SEED: the statements are not yours to turn. If you find one false, say at which input.
  Laid BY PROGRAM, IN A SANDBOX (cutbox-rows.mjs): the forced cells as the released guide's own fill.sh prints them over the translation 9d2ddde5ca96f8fb… (all of the seat's roots in one cut). By AI agents, Wed Nov 11 2026. No macro, syntax, notation, axiom, sorry.
-/
import Derived.Test.YtjjpdnpbhdcpbaaGreatChecked
import GoSem.Claim
import GoSem.ClaimJoined
import GoSem.ClaimMapViews
import Derived.JoinedTies
import Derived.KernelRfl
namespace Go.Proofs.YtjjpdnpbhdcpbaaGreat
/- THE CELL 'sum', in the pinned program and in every row, IS THE sha256 OF THE DUMP (.gsa) THAT YtjjpdnpbhdcpbaaGreatProg.lean LOADS. Nothing in Lean hashes anything: it is a label: what it is worth is what the hold of that sum in a sandbox is worth. -/
noncomputable def Tryz.pinned : Pinned := { name := "ytjjpdnpbhdcpbaagreat", sum := "9d2ddde5ca96f8fb4fff2a9b6c99960555b2d2b43f54e880cf5b2a3453ca40cf", checked := Tryz.checked }
namespace Rows
def none {H : Type} : Left H := { results := [], args := [] }

/-- 'modcertlaw48.CheckpointSigns': WHATEVER THE INPUT: true; the input reads as it did. -/
def checkpointSignsSpec : ChangeSpec := { name := "checkpointSigns", fn := fun _ => fun
  | [d1, d2, d3] => { results := [.lit (.bool true)], args := [d1, d2, d3] }
  | _ => none }
def checkpointSignsRow : OpenClaim := { program := "ytjjpdnpbhdcpbaagreat", sum := "9d2ddde5ca96f8fb4fff2a9b6c99960555b2d2b43f54e880cf5b2a3453ca40cf", func := "modcert/modcertlaw48.CheckpointSigns", spec := "checkpointSigns", inPlace := ["internal/abi.NoEscape", "internal/bytealg.MakeNoZero", "internal/bytealg.IndexByteString", "internal/bytealg.IndexString"], unfollowed := true, recurses := true, named := ["internal/bytealg.MaxLen"], apart := false }
def CheckpointSignsSaid : Prop := checkpointSignsRow.holds Tryz.pinned (OpenSpec.ofChange checkpointSignsSpec)

/-- ITS FALSE NEIGHBOUR: 'it returns false'. Refute it at one input. -/
def checkpointSignsWrong : ChangeSpec := { name := "checkpointSigns", fn := fun _ => fun
  | [d1, d2, d3] => { results := [.lit (.bool false)], args := [d1, d2, d3] }
  | _ => none }
def CheckpointSignsWrongFalsely : Prop := checkpointSignsRow.holds Tryz.pinned (OpenSpec.ofChange checkpointSignsWrong)

/-- 'modcertlaw48.CheckpointVerifies': WHATEVER THE INPUT: true; the input reads as it did. -/
def checkpointVerifiesSpec : ChangeSpec := { name := "checkpointVerifies", fn := fun _ => fun
  | [d1, d2, d3, d4] => { results := [.lit (.bool true)], args := [d1, d2, d3, d4] }
  | _ => none }
def checkpointVerifiesRow : OpenClaim := { program := "ytjjpdnpbhdcpbaagreat", sum := "9d2ddde5ca96f8fb4fff2a9b6c99960555b2d2b43f54e880cf5b2a3453ca40cf", func := "modcert/modcertlaw48.CheckpointVerifies", spec := "checkpointVerifies", inPlace := ["internal/abi.NoEscape", "internal/bytealg.MakeNoZero", "internal/bytealg.IndexByteString", "internal/bytealg.IndexString"], unfollowed := true, recurses := true, named := ["internal/bytealg.MaxLen"], apart := false }
def CheckpointVerifiesSaid : Prop := checkpointVerifiesRow.holds Tryz.pinned (OpenSpec.ofChange checkpointVerifiesSpec)

/-- ITS FALSE NEIGHBOUR: 'it returns false'. Refute it at one input. -/
def checkpointVerifiesWrong : ChangeSpec := { name := "checkpointVerifies", fn := fun _ => fun
  | [d1, d2, d3, d4] => { results := [.lit (.bool false)], args := [d1, d2, d3, d4] }
  | _ => none }
def CheckpointVerifiesWrongFalsely : Prop := checkpointVerifiesRow.holds Tryz.pinned (OpenSpec.ofChange checkpointVerifiesWrong)

/-- 'modcertlaw48.CheckpointBytes': WHATEVER THE INPUT: true; the input reads as it did. -/
def checkpointBytesSpec : ChangeSpec := { name := "checkpointBytes", fn := fun _ => fun
  | [d1, d2] => { results := [.lit (.bool true)], args := [d1, d2] }
  | _ => none }
def checkpointBytesRow : OpenClaim := { program := "ytjjpdnpbhdcpbaagreat", sum := "9d2ddde5ca96f8fb4fff2a9b6c99960555b2d2b43f54e880cf5b2a3453ca40cf", func := "modcert/modcertlaw48.CheckpointBytes", spec := "checkpointBytes", inPlace := ["internal/abi.NoEscape", "internal/bytealg.MakeNoZero", "internal/bytealg.IndexByteString", "internal/bytealg.IndexString"], unfollowed := true, recurses := true, named := ["internal/bytealg.MaxLen"], apart := false }
def CheckpointBytesSaid : Prop := checkpointBytesRow.holds Tryz.pinned (OpenSpec.ofChange checkpointBytesSpec)

/-- ITS FALSE NEIGHBOUR: 'it returns false'. Refute it at one input. -/
def checkpointBytesWrong : ChangeSpec := { name := "checkpointBytes", fn := fun _ => fun
  | [d1, d2] => { results := [.lit (.bool false)], args := [d1, d2] }
  | _ => none }
def CheckpointBytesWrongFalsely : Prop := checkpointBytesRow.holds Tryz.pinned (OpenSpec.ofChange checkpointBytesWrong)

/-- 'modcertlaw48.CheckpointObserves': WHATEVER THE INPUT: true; the input reads as it did. -/
def checkpointObservesSpec : ChangeSpec := { name := "checkpointObserves", fn := fun _ => fun
  | [d1, d2, d3] => { results := [.lit (.bool true)], args := [d1, d2, d3] }
  | _ => none }
def checkpointObservesRow : OpenClaim := { program := "ytjjpdnpbhdcpbaagreat", sum := "9d2ddde5ca96f8fb4fff2a9b6c99960555b2d2b43f54e880cf5b2a3453ca40cf", func := "modcert/modcertlaw48.CheckpointObserves", spec := "checkpointObserves", inPlace := ["internal/abi.NoEscape", "internal/bytealg.MakeNoZero", "internal/bytealg.IndexByteString", "internal/bytealg.IndexString"], unfollowed := true, recurses := true, named := ["internal/bytealg.MaxLen"], apart := false }
def CheckpointObservesSaid : Prop := checkpointObservesRow.holds Tryz.pinned (OpenSpec.ofChange checkpointObservesSpec)

/-- ITS FALSE NEIGHBOUR: 'it returns false'. Refute it at one input. -/
def checkpointObservesWrong : ChangeSpec := { name := "checkpointObserves", fn := fun _ => fun
  | [d1, d2, d3] => { results := [.lit (.bool false)], args := [d1, d2, d3] }
  | _ => none }
def CheckpointObservesWrongFalsely : Prop := checkpointObservesRow.holds Tryz.pinned (OpenSpec.ofChange checkpointObservesWrong)

/-- 'modcertlaw48.CheckpointEvidence': WHATEVER THE INPUT: true; the input reads as it did. -/
def checkpointEvidenceSpec : ChangeSpec := { name := "checkpointEvidence", fn := fun _ => fun
  | [d1, d2, d3] => { results := [.lit (.bool true)], args := [d1, d2, d3] }
  | _ => none }
def checkpointEvidenceRow : OpenClaim := { program := "ytjjpdnpbhdcpbaagreat", sum := "9d2ddde5ca96f8fb4fff2a9b6c99960555b2d2b43f54e880cf5b2a3453ca40cf", func := "modcert/modcertlaw48.CheckpointEvidence", spec := "checkpointEvidence", inPlace := ["internal/abi.NoEscape", "internal/bytealg.MakeNoZero", "internal/bytealg.IndexByteString", "internal/bytealg.IndexString"], unfollowed := true, recurses := true, named := ["internal/bytealg.MaxLen"], apart := false }
def CheckpointEvidenceSaid : Prop := checkpointEvidenceRow.holds Tryz.pinned (OpenSpec.ofChange checkpointEvidenceSpec)

/-- ITS FALSE NEIGHBOUR: 'it returns false'. Refute it at one input. -/
def checkpointEvidenceWrong : ChangeSpec := { name := "checkpointEvidence", fn := fun _ => fun
  | [d1, d2, d3] => { results := [.lit (.bool false)], args := [d1, d2, d3] }
  | _ => none }
def CheckpointEvidenceWrongFalsely : Prop := checkpointEvidenceRow.holds Tryz.pinned (OpenSpec.ofChange checkpointEvidenceWrong)

/-- 'modcertlaw48.CheckpointHonest': WHATEVER THE INPUT: true; the input reads as it did. -/
def checkpointHonestSpec : ChangeSpec := { name := "checkpointHonest", fn := fun _ => fun
  | [d1, d2] => { results := [.lit (.bool true)], args := [d1, d2] }
  | _ => none }
def checkpointHonestRow : OpenClaim := { program := "ytjjpdnpbhdcpbaagreat", sum := "9d2ddde5ca96f8fb4fff2a9b6c99960555b2d2b43f54e880cf5b2a3453ca40cf", func := "modcert/modcertlaw48.CheckpointHonest", spec := "checkpointHonest", inPlace := ["internal/abi.NoEscape", "internal/bytealg.MakeNoZero", "internal/bytealg.IndexByteString", "internal/bytealg.IndexString"], unfollowed := true, recurses := true, named := ["internal/bytealg.MaxLen"], apart := false }
def CheckpointHonestSaid : Prop := checkpointHonestRow.holds Tryz.pinned (OpenSpec.ofChange checkpointHonestSpec)

/-- ITS FALSE NEIGHBOUR: 'it returns false'. Refute it at one input. -/
def checkpointHonestWrong : ChangeSpec := { name := "checkpointHonest", fn := fun _ => fun
  | [d1, d2] => { results := [.lit (.bool false)], args := [d1, d2] }
  | _ => none }
def CheckpointHonestWrongFalsely : Prop := checkpointHonestRow.holds Tryz.pinned (OpenSpec.ofChange checkpointHonestWrong)

/-- 'modcertlaw48.CheckpointForks': WHATEVER THE INPUT: true; the input reads as it did. -/
def checkpointForksSpec : ChangeSpec := { name := "checkpointForks", fn := fun _ => fun
  | [d1, d2, d3] => { results := [.lit (.bool true)], args := [d1, d2, d3] }
  | _ => none }
def checkpointForksRow : OpenClaim := { program := "ytjjpdnpbhdcpbaagreat", sum := "9d2ddde5ca96f8fb4fff2a9b6c99960555b2d2b43f54e880cf5b2a3453ca40cf", func := "modcert/modcertlaw48.CheckpointForks", spec := "checkpointForks", inPlace := ["internal/abi.NoEscape", "internal/bytealg.MakeNoZero", "internal/bytealg.IndexByteString", "internal/bytealg.IndexString"], unfollowed := true, recurses := true, named := ["internal/bytealg.MaxLen"], apart := false }
def CheckpointForksSaid : Prop := checkpointForksRow.holds Tryz.pinned (OpenSpec.ofChange checkpointForksSpec)

/-- ITS FALSE NEIGHBOUR: 'it returns false'. Refute it at one input. -/
def checkpointForksWrong : ChangeSpec := { name := "checkpointForks", fn := fun _ => fun
  | [d1, d2, d3] => { results := [.lit (.bool false)], args := [d1, d2, d3] }
  | _ => none }
def CheckpointForksWrongFalsely : Prop := checkpointForksRow.holds Tryz.pinned (OpenSpec.ofChange checkpointForksWrong)

/-- 'modcertlaw48.CheckpointRotates': WHATEVER THE INPUT: true; the input reads as it did. -/
def checkpointRotatesSpec : ChangeSpec := { name := "checkpointRotates", fn := fun _ => fun
  | [d1, d2] => { results := [.lit (.bool true)], args := [d1, d2] }
  | _ => none }
def checkpointRotatesRow : OpenClaim := { program := "ytjjpdnpbhdcpbaagreat", sum := "9d2ddde5ca96f8fb4fff2a9b6c99960555b2d2b43f54e880cf5b2a3453ca40cf", func := "modcert/modcertlaw48.CheckpointRotates", spec := "checkpointRotates", inPlace := ["internal/abi.NoEscape", "internal/bytealg.MakeNoZero", "internal/bytealg.IndexByteString", "internal/bytealg.IndexString"], unfollowed := true, recurses := true, named := ["internal/bytealg.MaxLen"], apart := false }
def CheckpointRotatesSaid : Prop := checkpointRotatesRow.holds Tryz.pinned (OpenSpec.ofChange checkpointRotatesSpec)

/-- ITS FALSE NEIGHBOUR: 'it returns false'. Refute it at one input. -/
def checkpointRotatesWrong : ChangeSpec := { name := "checkpointRotates", fn := fun _ => fun
  | [d1, d2] => { results := [.lit (.bool false)], args := [d1, d2] }
  | _ => none }
def CheckpointRotatesWrongFalsely : Prop := checkpointRotatesRow.holds Tryz.pinned (OpenSpec.ofChange checkpointRotatesWrong)

/- THE SECOND FORM. 'bulk': how many values and letters a reading holds, each counted each time it is reached (what is shared counts as often as it is met; a slice's spare places count too). A statement '..UptoSaid' is the law's where the arguments, and the package variables that the reading takes, are together of bulk at most 1048576: NARROWER than '..Said'. Prove '..Said' where nothing that the law and all that it calls make is longer than what came in: it says more and counts as full. Else prove '..UptoSaid'. A law counts once. -/
mutual
def uptoBulk {H : Type} : DataW H → Nat
  | .lit (.string bytes) => bytes.length + 1
  | .lit _ => 1
  | .nil => 1
  | .ptr d => uptoBulk d + 1
  | .slice elems spare => uptoBulkAll elems + uptoBulkAll spare + 1
  | .agg parts => uptoBulkAll parts + 1
  | .iface _ d => uptoBulk d + 1
  | .map entries => uptoBulkEntries entries + 1
  | .held _ => 1
def uptoBulkAll {H : Type} : List (DataW H) → Nat
  | [] => 0
  | d :: r => uptoBulk d + uptoBulkAll r
def uptoBulkEntries {H : Type} : List (Lit × DataW H) → Nat
  | [] => 0
  | x :: r => uptoBulkEntry x + uptoBulkEntries r
def uptoBulkEntry {H : Type} : Lit × DataW H → Nat
  | (.string bytes, d) => bytes.length + uptoBulk d + 1
  | (_, d) => uptoBulk d + 1
 end
def uptoSmall : (H : Type) → List (DataW H) → Bool := fun _ ds => decide (uptoBulkAll ds ≤ 1048576)
def OpenSpec.upto (s : _root_.Go.ChangeSpec) : _root_.Go.OpenSpec := { _root_.Go.OpenSpec.ofChange s with cond := some uptoSmall }

/-- 'modcertlaw48.CheckpointSigns', WHERE WHAT IT READS IS OF BULK AT MOST 1048576: true; the input reads as it did. -/
def checkpointSignsUptoRow : OpenClaim := { program := "ytjjpdnpbhdcpbaagreat", sum := "9d2ddde5ca96f8fb4fff2a9b6c99960555b2d2b43f54e880cf5b2a3453ca40cf", func := "modcert/modcertlaw48.CheckpointSigns", spec := "checkpointSigns", inPlace := ["internal/abi.NoEscape", "internal/bytealg.MakeNoZero", "internal/bytealg.IndexByteString", "internal/bytealg.IndexString"], unfollowed := true, recurses := true, named := ["internal/bytealg.MaxLen"], apart := false, narrowed := true }
def CheckpointSignsUptoSaid : Prop := checkpointSignsUptoRow.holds Tryz.pinned (OpenSpec.upto checkpointSignsSpec)

/-- 'modcertlaw48.CheckpointVerifies', WHERE WHAT IT READS IS OF BULK AT MOST 1048576: true; the input reads as it did. -/
def checkpointVerifiesUptoRow : OpenClaim := { program := "ytjjpdnpbhdcpbaagreat", sum := "9d2ddde5ca96f8fb4fff2a9b6c99960555b2d2b43f54e880cf5b2a3453ca40cf", func := "modcert/modcertlaw48.CheckpointVerifies", spec := "checkpointVerifies", inPlace := ["internal/abi.NoEscape", "internal/bytealg.MakeNoZero", "internal/bytealg.IndexByteString", "internal/bytealg.IndexString"], unfollowed := true, recurses := true, named := ["internal/bytealg.MaxLen"], apart := false, narrowed := true }
def CheckpointVerifiesUptoSaid : Prop := checkpointVerifiesUptoRow.holds Tryz.pinned (OpenSpec.upto checkpointVerifiesSpec)

/-- 'modcertlaw48.CheckpointBytes', WHERE WHAT IT READS IS OF BULK AT MOST 1048576: true; the input reads as it did. -/
def checkpointBytesUptoRow : OpenClaim := { program := "ytjjpdnpbhdcpbaagreat", sum := "9d2ddde5ca96f8fb4fff2a9b6c99960555b2d2b43f54e880cf5b2a3453ca40cf", func := "modcert/modcertlaw48.CheckpointBytes", spec := "checkpointBytes", inPlace := ["internal/abi.NoEscape", "internal/bytealg.MakeNoZero", "internal/bytealg.IndexByteString", "internal/bytealg.IndexString"], unfollowed := true, recurses := true, named := ["internal/bytealg.MaxLen"], apart := false, narrowed := true }
def CheckpointBytesUptoSaid : Prop := checkpointBytesUptoRow.holds Tryz.pinned (OpenSpec.upto checkpointBytesSpec)

/-- 'modcertlaw48.CheckpointObserves', WHERE WHAT IT READS IS OF BULK AT MOST 1048576: true; the input reads as it did. -/
def checkpointObservesUptoRow : OpenClaim := { program := "ytjjpdnpbhdcpbaagreat", sum := "9d2ddde5ca96f8fb4fff2a9b6c99960555b2d2b43f54e880cf5b2a3453ca40cf", func := "modcert/modcertlaw48.CheckpointObserves", spec := "checkpointObserves", inPlace := ["internal/abi.NoEscape", "internal/bytealg.MakeNoZero", "internal/bytealg.IndexByteString", "internal/bytealg.IndexString"], unfollowed := true, recurses := true, named := ["internal/bytealg.MaxLen"], apart := false, narrowed := true }
def CheckpointObservesUptoSaid : Prop := checkpointObservesUptoRow.holds Tryz.pinned (OpenSpec.upto checkpointObservesSpec)

/-- 'modcertlaw48.CheckpointEvidence', WHERE WHAT IT READS IS OF BULK AT MOST 1048576: true; the input reads as it did. -/
def checkpointEvidenceUptoRow : OpenClaim := { program := "ytjjpdnpbhdcpbaagreat", sum := "9d2ddde5ca96f8fb4fff2a9b6c99960555b2d2b43f54e880cf5b2a3453ca40cf", func := "modcert/modcertlaw48.CheckpointEvidence", spec := "checkpointEvidence", inPlace := ["internal/abi.NoEscape", "internal/bytealg.MakeNoZero", "internal/bytealg.IndexByteString", "internal/bytealg.IndexString"], unfollowed := true, recurses := true, named := ["internal/bytealg.MaxLen"], apart := false, narrowed := true }
def CheckpointEvidenceUptoSaid : Prop := checkpointEvidenceUptoRow.holds Tryz.pinned (OpenSpec.upto checkpointEvidenceSpec)

/-- 'modcertlaw48.CheckpointHonest', WHERE WHAT IT READS IS OF BULK AT MOST 1048576: true; the input reads as it did. -/
def checkpointHonestUptoRow : OpenClaim := { program := "ytjjpdnpbhdcpbaagreat", sum := "9d2ddde5ca96f8fb4fff2a9b6c99960555b2d2b43f54e880cf5b2a3453ca40cf", func := "modcert/modcertlaw48.CheckpointHonest", spec := "checkpointHonest", inPlace := ["internal/abi.NoEscape", "internal/bytealg.MakeNoZero", "internal/bytealg.IndexByteString", "internal/bytealg.IndexString"], unfollowed := true, recurses := true, named := ["internal/bytealg.MaxLen"], apart := false, narrowed := true }
def CheckpointHonestUptoSaid : Prop := checkpointHonestUptoRow.holds Tryz.pinned (OpenSpec.upto checkpointHonestSpec)

/-- 'modcertlaw48.CheckpointForks', WHERE WHAT IT READS IS OF BULK AT MOST 1048576: true; the input reads as it did. -/
def checkpointForksUptoRow : OpenClaim := { program := "ytjjpdnpbhdcpbaagreat", sum := "9d2ddde5ca96f8fb4fff2a9b6c99960555b2d2b43f54e880cf5b2a3453ca40cf", func := "modcert/modcertlaw48.CheckpointForks", spec := "checkpointForks", inPlace := ["internal/abi.NoEscape", "internal/bytealg.MakeNoZero", "internal/bytealg.IndexByteString", "internal/bytealg.IndexString"], unfollowed := true, recurses := true, named := ["internal/bytealg.MaxLen"], apart := false, narrowed := true }
def CheckpointForksUptoSaid : Prop := checkpointForksUptoRow.holds Tryz.pinned (OpenSpec.upto checkpointForksSpec)

/-- 'modcertlaw48.CheckpointRotates', WHERE WHAT IT READS IS OF BULK AT MOST 1048576: true; the input reads as it did. -/
def checkpointRotatesUptoRow : OpenClaim := { program := "ytjjpdnpbhdcpbaagreat", sum := "9d2ddde5ca96f8fb4fff2a9b6c99960555b2d2b43f54e880cf5b2a3453ca40cf", func := "modcert/modcertlaw48.CheckpointRotates", spec := "checkpointRotates", inPlace := ["internal/abi.NoEscape", "internal/bytealg.MakeNoZero", "internal/bytealg.IndexByteString", "internal/bytealg.IndexString"], unfollowed := true, recurses := true, named := ["internal/bytealg.MaxLen"], apart := false, narrowed := true }
def CheckpointRotatesUptoSaid : Prop := checkpointRotatesUptoRow.holds Tryz.pinned (OpenSpec.upto checkpointRotatesSpec)

end Rows
end Go.Proofs.YtjjpdnpbhdcpbaaGreat
