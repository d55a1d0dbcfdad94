/-
  DERIVED. GIVEN WITH THE SEED: THE CARDS: each row of YtkkggpahanddnaaGreatDoorRows.lean that lists a variable, with what it lists TIED to the program's text (the seventh form; the later family's looks); each row that meets fmt, with fmt's text TOLD by the authors' own Lean function (tested against real Go, not proved from fmt's source: count such statements apart). THE CARD IS WHAT COUNTS. Prove the row's statement (the work); the ties are given (YtkkggpahanddnaaGreatDoorTie.lean); close each card by the builder's one call (the guide's Derived/Test/ToyasCard.lean, 'card_holds'). Laid BY PROGRAM, IN A SANDBOX (cutbox-door.mjs). By AI agents, Wed Nov 11 2026. No macro, syntax, notation, axiom, sorry.
-/
import Derived.Test.YtkkggpahanddnaaGreatDoorRows
import GoSem.ClaimSeven
namespace Go.Proofs.YtkkggpahanddnaaGreatDoor
namespace Rows

/-- THE TIED CARD OF 'calquelaw37.PiecesText'. -/
def piecesTextCard : Claim7 := { stood := { row := piecesTextRow, standIns := [], harness := (true, "f8a2a1bfb6c1010ba5655ec4f740f9a83410381567c4d2285a93c44469b9b6f3"), looks := true }, kinds := [], alts := [], laidByText := true, laidKinds := [.data, .data, .data, .sentinel, .sentinel], laidTests := true, laidLooks := .later }
def PiecesTextCardSaid : Prop := Claim7.holds Tryz.pinned (.plain (OpenSpec.ofChange piecesTextSpec)) piecesTextCard

/-- THE SECOND FORM's CARD OF 'calquelaw37.PiecesText'. -/
def piecesTextUptoCard : Claim7 := { stood := { row := piecesTextUptoRow, standIns := [], harness := (true, "f8a2a1bfb6c1010ba5655ec4f740f9a83410381567c4d2285a93c44469b9b6f3"), looks := true }, kinds := [], alts := [], laidByText := true, laidKinds := [.data, .data, .data, .sentinel, .sentinel], laidTests := true, laidLooks := .later }
def PiecesTextUptoCardSaid : Prop := Claim7.holds Tryz.pinned (.plain (OpenSpec.upto piecesTextSpec)) piecesTextUptoCard
end Rows
end Go.Proofs.YtkkggpahanddnaaGreatDoor
