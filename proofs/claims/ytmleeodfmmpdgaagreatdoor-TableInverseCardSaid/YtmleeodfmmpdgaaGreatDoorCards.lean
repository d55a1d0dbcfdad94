/-
  DERIVED. GIVEN WITH THE SEED: THE CARDS: each row of YtmleeodfmmpdgaaGreatDoorRows.lean that lists a variable, with what it lists TIED to the program's text (the seventh form; the later family's looks); each row that meets fmt, with fmt's text TOLD by the authors' own Lean function (tested against real Go, not proved from fmt's source: count such statements apart). THE CARD IS WHAT COUNTS. Prove the row's statement (the work); the ties are given (YtmleeodfmmpdgaaGreatDoorTie.lean); close each card by the builder's one call (the guide's Derived/Test/ToyasCard.lean, 'card_holds'). Laid BY PROGRAM, IN A SANDBOX (cutbox-door.mjs). By AI agents, Wed Nov 11 2026. No macro, syntax, notation, axiom, sorry.
-/
import Derived.Test.YtmleeodfmmpdgaaGreatDoorRows
import GoSem.ClaimSeven
namespace Go.Proofs.YtmleeodfmmpdgaaGreatDoor
namespace Rows

/-- THE TIED CARD OF 'calquelaw12.TableParse'. -/
def tableParseCard : Claim7 := { stood := { row := tableParseRow, standIns := [], harness := (true, "53866a3cfb6a5f7e0285feebabafe408afb9ebef8f183c7493c95fa9bfcd2b80"), looks := true }, kinds := [], alts := [], laidByText := true, laidKinds := [.data, .data, .data, .data, .sentinel, .sentinel, .pinned], laidTests := true, laidLooks := .later }
def TableParseCardSaid : Prop := Claim7.holds Tryz.pinned (.plain (OpenSpec.ofChange tableParseSpec)) tableParseCard

/-- THE TIED CARD OF 'calquelaw12.TableParts'. -/
def tablePartsCard : Claim7 := { stood := { row := tablePartsRow, standIns := [], harness := (true, "53866a3cfb6a5f7e0285feebabafe408afb9ebef8f183c7493c95fa9bfcd2b80"), looks := true }, kinds := [], alts := [], laidByText := true, laidKinds := [.data, .data, .data, .data, .sentinel, .sentinel, .pinned], laidTests := true, laidLooks := .later }
def TablePartsCardSaid : Prop := Claim7.holds Tryz.pinned (.plain (OpenSpec.ofChange tablePartsSpec)) tablePartsCard

/-- THE TIED CARD OF 'calquelaw12.TableInverse'. -/
def tableInverseCard : Claim7 := { stood := { row := tableInverseRow, standIns := [], harness := (true, "53866a3cfb6a5f7e0285feebabafe408afb9ebef8f183c7493c95fa9bfcd2b80"), looks := true }, kinds := [], alts := [], laidByText := true, laidKinds := [.data, .data, .data, .data, .sentinel, .sentinel, .pinned], laidTests := true, laidLooks := .later }
def TableInverseCardSaid : Prop := Claim7.holds Tryz.pinned (.plain (OpenSpec.ofChange tableInverseSpec)) tableInverseCard

/-- THE TIED CARD OF 'calquelaw12.TableOrder'. -/
def tableOrderCard : Claim7 := { stood := { row := tableOrderRow, standIns := [], harness := (true, "53866a3cfb6a5f7e0285feebabafe408afb9ebef8f183c7493c95fa9bfcd2b80"), looks := true }, kinds := [], alts := [], laidByText := true, laidKinds := [.data, .data, .data, .data, .sentinel, .sentinel, .pinned], laidTests := true, laidLooks := .later }
def TableOrderCardSaid : Prop := Claim7.holds Tryz.pinned (.plain (OpenSpec.ofChange tableOrderSpec)) tableOrderCard

/-- THE TIED CARD OF 'calquelaw12.TableConditions'. -/
def tableConditionsCard : Claim7 := { stood := { row := tableConditionsRow, standIns := [], harness := (true, "53866a3cfb6a5f7e0285feebabafe408afb9ebef8f183c7493c95fa9bfcd2b80"), looks := true }, kinds := [], alts := [], laidByText := true, laidKinds := [.data, .data, .data, .data, .sentinel, .sentinel, .pinned], laidTests := true, laidLooks := .later }
def TableConditionsCardSaid : Prop := Claim7.holds Tryz.pinned (.plain (OpenSpec.ofChange tableConditionsSpec)) tableConditionsCard

/-- THE TIED CARD OF 'calquelaw12.TablePrint'. -/
def tablePrintCard : Claim7 := { stood := { row := tablePrintRow, standIns := [], harness := (true, "53866a3cfb6a5f7e0285feebabafe408afb9ebef8f183c7493c95fa9bfcd2b80"), looks := true }, kinds := [], alts := [], laidByText := true, laidKinds := [.data, .data, .data, .data, .sentinel, .sentinel, .pinned], laidTests := true, laidLooks := .later }
def TablePrintCardSaid : Prop := Claim7.holds Tryz.pinned (.plain (OpenSpec.ofChange tablePrintSpec)) tablePrintCard

/-- THE TIED CARD OF 'calquelaw12.TableSample'. -/
def tableSampleCard : Claim7 := { stood := { row := tableSampleRow, standIns := [], harness := (true, "53866a3cfb6a5f7e0285feebabafe408afb9ebef8f183c7493c95fa9bfcd2b80"), looks := true }, kinds := [], alts := [], laidByText := true, laidKinds := [.data, .data, .data, .data, .sentinel, .sentinel, .pinned], laidTests := true, laidLooks := .later }
def TableSampleCardSaid : Prop := Claim7.holds Tryz.pinned (.plain (OpenSpec.ofChange tableSampleSpec)) tableSampleCard

/-- THE SECOND FORM's CARD OF 'calquelaw12.TableParse'. -/
def tableParseUptoCard : Claim7 := { stood := { row := tableParseUptoRow, standIns := [], harness := (true, "53866a3cfb6a5f7e0285feebabafe408afb9ebef8f183c7493c95fa9bfcd2b80"), looks := true }, kinds := [], alts := [], laidByText := true, laidKinds := [.data, .data, .data, .data, .sentinel, .sentinel, .pinned], laidTests := true, laidLooks := .later }
def TableParseUptoCardSaid : Prop := Claim7.holds Tryz.pinned (.plain (OpenSpec.upto tableParseSpec)) tableParseUptoCard

/-- THE SECOND FORM's CARD OF 'calquelaw12.TableParts'. -/
def tablePartsUptoCard : Claim7 := { stood := { row := tablePartsUptoRow, standIns := [], harness := (true, "53866a3cfb6a5f7e0285feebabafe408afb9ebef8f183c7493c95fa9bfcd2b80"), looks := true }, kinds := [], alts := [], laidByText := true, laidKinds := [.data, .data, .data, .data, .sentinel, .sentinel, .pinned], laidTests := true, laidLooks := .later }
def TablePartsUptoCardSaid : Prop := Claim7.holds Tryz.pinned (.plain (OpenSpec.upto tablePartsSpec)) tablePartsUptoCard

/-- THE SECOND FORM's CARD OF 'calquelaw12.TableInverse'. -/
def tableInverseUptoCard : Claim7 := { stood := { row := tableInverseUptoRow, standIns := [], harness := (true, "53866a3cfb6a5f7e0285feebabafe408afb9ebef8f183c7493c95fa9bfcd2b80"), looks := true }, kinds := [], alts := [], laidByText := true, laidKinds := [.data, .data, .data, .data, .sentinel, .sentinel, .pinned], laidTests := true, laidLooks := .later }
def TableInverseUptoCardSaid : Prop := Claim7.holds Tryz.pinned (.plain (OpenSpec.upto tableInverseSpec)) tableInverseUptoCard

/-- THE SECOND FORM's CARD OF 'calquelaw12.TableOrder'. -/
def tableOrderUptoCard : Claim7 := { stood := { row := tableOrderUptoRow, standIns := [], harness := (true, "53866a3cfb6a5f7e0285feebabafe408afb9ebef8f183c7493c95fa9bfcd2b80"), looks := true }, kinds := [], alts := [], laidByText := true, laidKinds := [.data, .data, .data, .data, .sentinel, .sentinel, .pinned], laidTests := true, laidLooks := .later }
def TableOrderUptoCardSaid : Prop := Claim7.holds Tryz.pinned (.plain (OpenSpec.upto tableOrderSpec)) tableOrderUptoCard

/-- THE SECOND FORM's CARD OF 'calquelaw12.TableConditions'. -/
def tableConditionsUptoCard : Claim7 := { stood := { row := tableConditionsUptoRow, standIns := [], harness := (true, "53866a3cfb6a5f7e0285feebabafe408afb9ebef8f183c7493c95fa9bfcd2b80"), looks := true }, kinds := [], alts := [], laidByText := true, laidKinds := [.data, .data, .data, .data, .sentinel, .sentinel, .pinned], laidTests := true, laidLooks := .later }
def TableConditionsUptoCardSaid : Prop := Claim7.holds Tryz.pinned (.plain (OpenSpec.upto tableConditionsSpec)) tableConditionsUptoCard

/-- THE SECOND FORM's CARD OF 'calquelaw12.TablePrint'. -/
def tablePrintUptoCard : Claim7 := { stood := { row := tablePrintUptoRow, standIns := [], harness := (true, "53866a3cfb6a5f7e0285feebabafe408afb9ebef8f183c7493c95fa9bfcd2b80"), looks := true }, kinds := [], alts := [], laidByText := true, laidKinds := [.data, .data, .data, .data, .sentinel, .sentinel, .pinned], laidTests := true, laidLooks := .later }
def TablePrintUptoCardSaid : Prop := Claim7.holds Tryz.pinned (.plain (OpenSpec.upto tablePrintSpec)) tablePrintUptoCard

/-- THE SECOND FORM's CARD OF 'calquelaw12.TableSample'. -/
def tableSampleUptoCard : Claim7 := { stood := { row := tableSampleUptoRow, standIns := [], harness := (true, "53866a3cfb6a5f7e0285feebabafe408afb9ebef8f183c7493c95fa9bfcd2b80"), looks := true }, kinds := [], alts := [], laidByText := true, laidKinds := [.data, .data, .data, .data, .sentinel, .sentinel, .pinned], laidTests := true, laidLooks := .later }
def TableSampleUptoCardSaid : Prop := Claim7.holds Tryz.pinned (.plain (OpenSpec.upto tableSampleSpec)) tableSampleUptoCard
end Rows
end Go.Proofs.YtmleeodfmmpdgaaGreatDoor
