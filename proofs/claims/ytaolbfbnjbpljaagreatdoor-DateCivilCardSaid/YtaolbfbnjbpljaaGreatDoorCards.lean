/-
  DERIVED. GIVEN WITH THE SEED: THE CARDS: each row of YtaolbfbnjbpljaaGreatDoorRows.lean that lists a variable, with what it lists TIED to the program's text (the seventh form; the later family's looks); each row that meets fmt, with fmt's text TOLD by the authors' own Lean function (tested against real Go, not proved from fmt's source: count such statements apart). THE CARD IS WHAT COUNTS. Prove the row's statement (the work); the ties are given (YtaolbfbnjbpljaaGreatDoorTie.lean); close each card by the builder's one call (the guide's Derived/Test/ToyasCard.lean, 'card_holds'). Laid BY PROGRAM, IN A SANDBOX (cutbox-door.mjs). By AI agents, Wed Nov 11 2026. No macro, syntax, notation, axiom, sorry.
-/
import Derived.Test.YtaolbfbnjbpljaaGreatDoorRows
import GoSem.ClaimSeven
namespace Go.Proofs.YtaolbfbnjbpljaaGreatDoor
namespace Rows

/-- THE TIED CARD OF 'calquelaw18.DateFormat'. -/
def dateFormatCard : Claim7 := { stood := { row := dateFormatRow, standIns := [], harness := (true, "3db465137fd69d102968c619fb423cdecd63e8bc0b1cbba07c9796f9e9176a9c"), looks := true }, kinds := [], alts := [], laidByText := true, laidKinds := [.data, .data, .data, .data, .pinned], laidTests := true, laidLooks := .later }
def DateFormatCardSaid : Prop := Claim7.holds Tryz.pinned (.plain (OpenSpec.ofChange dateFormatSpec)) dateFormatCard

/-- THE TIED CARD OF 'calquelaw18.DateCivil'. -/
def dateCivilCard : Claim7 := { stood := { row := dateCivilRow, standIns := [], harness := (true, "3db465137fd69d102968c619fb423cdecd63e8bc0b1cbba07c9796f9e9176a9c"), looks := true }, kinds := [], alts := [], laidByText := true, laidKinds := [.data, .data, .data, .data, .sentinel, .sentinel, .pinned], laidTests := true, laidLooks := .later }
def DateCivilCardSaid : Prop := Claim7.holds Tryz.pinned (.plain (OpenSpec.ofChange dateCivilSpec)) dateCivilCard

/-- THE TIED CARD OF 'calquelaw18.DateParse'. -/
def dateParseCard : Claim7 := { stood := { row := dateParseRow, standIns := [], harness := (true, "3db465137fd69d102968c619fb423cdecd63e8bc0b1cbba07c9796f9e9176a9c"), looks := true }, kinds := [], alts := [], laidByText := true, laidKinds := [.data, .data, .data, .data, .sentinel, .sentinel, .pinned], laidTests := true, laidLooks := .later }
def DateParseCardSaid : Prop := Claim7.holds Tryz.pinned (.plain (OpenSpec.ofChange dateParseSpec)) dateParseCard

/-- THE SECOND FORM's CARD OF 'calquelaw18.DateFormat'. -/
def dateFormatUptoCard : Claim7 := { stood := { row := dateFormatUptoRow, standIns := [], harness := (true, "3db465137fd69d102968c619fb423cdecd63e8bc0b1cbba07c9796f9e9176a9c"), looks := true }, kinds := [], alts := [], laidByText := true, laidKinds := [.data, .data, .data, .data, .pinned], laidTests := true, laidLooks := .later }
def DateFormatUptoCardSaid : Prop := Claim7.holds Tryz.pinned (.plain (OpenSpec.upto dateFormatSpec)) dateFormatUptoCard

/-- THE SECOND FORM's CARD OF 'calquelaw18.DateCivil'. -/
def dateCivilUptoCard : Claim7 := { stood := { row := dateCivilUptoRow, standIns := [], harness := (true, "3db465137fd69d102968c619fb423cdecd63e8bc0b1cbba07c9796f9e9176a9c"), looks := true }, kinds := [], alts := [], laidByText := true, laidKinds := [.data, .data, .data, .data, .sentinel, .sentinel, .pinned], laidTests := true, laidLooks := .later }
def DateCivilUptoCardSaid : Prop := Claim7.holds Tryz.pinned (.plain (OpenSpec.upto dateCivilSpec)) dateCivilUptoCard

/-- THE SECOND FORM's CARD OF 'calquelaw18.DateParse'. -/
def dateParseUptoCard : Claim7 := { stood := { row := dateParseUptoRow, standIns := [], harness := (true, "3db465137fd69d102968c619fb423cdecd63e8bc0b1cbba07c9796f9e9176a9c"), looks := true }, kinds := [], alts := [], laidByText := true, laidKinds := [.data, .data, .data, .data, .sentinel, .sentinel, .pinned], laidTests := true, laidLooks := .later }
def DateParseUptoCardSaid : Prop := Claim7.holds Tryz.pinned (.plain (OpenSpec.upto dateParseSpec)) dateParseUptoCard
end Rows
end Go.Proofs.YtaolbfbnjbpljaaGreatDoor
