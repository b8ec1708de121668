/-
  DERIVED. GIVEN WITH THE SEED: THE CARDS: each row of YtiefajiebebgoaaGreatDoorRows.lean that lists a variable, with what it lists TIED to the program's text (the seventh form; the later family's looks); each row that meets fmt, with fmt's text TOLD by the authors' own Lean function (tested against real Go, not proved from fmt's source: count such statements apart). THE CARD IS WHAT COUNTS. Prove the row's statement (the work); the ties are given (YtiefajiebebgoaaGreatDoorTie.lean); close each card by the builder's one call (the guide's Derived/Test/ToyasCard.lean, 'card_holds'). Laid BY PROGRAM, IN A SANDBOX (cutbox-door.mjs). By AI agents, Wed Nov 11 2026. No macro, syntax, notation, axiom, sorry.
-/
import Derived.Test.YtiefajiebebgoaaGreatDoorRows
import GoSem.ClaimSeven
namespace Go.Proofs.YtiefajiebebgoaaGreatDoor
namespace Rows

/-- THE TIED CARD OF 'modcerttop.TopMinimal'. -/
def topMinimalCard : Claim7 := { stood := { row := topMinimalRow, standIns := [], harness := (true, "b6dfd709c32b61d07c8064fe1a2a31aaa937a88d804a2136dc55605e98f9560d"), looks := false }, kinds := [], alts := [], laidByText := true, laidKinds := [.data, .pinned], laidTests := true, laidLooks := .later }
def TopMinimalCardSaid : Prop := Claim7.holds Tryz.pinned (.plain (OpenSpec.ofChange topMinimalSpec)) topMinimalCard

/-- THE SECOND FORM's CARD OF 'modcerttop.TopMinimal'. -/
def topMinimalUptoCard : Claim7 := { stood := { row := topMinimalUptoRow, standIns := [], harness := (true, "b6dfd709c32b61d07c8064fe1a2a31aaa937a88d804a2136dc55605e98f9560d"), looks := false }, kinds := [], alts := [], laidByText := true, laidKinds := [.data, .pinned], laidTests := true, laidLooks := .later }
def TopMinimalUptoCardSaid : Prop := Claim7.holds Tryz.pinned (.plain (OpenSpec.upto topMinimalSpec)) topMinimalUptoCard
end Rows
end Go.Proofs.YtiefajiebebgoaaGreatDoor
