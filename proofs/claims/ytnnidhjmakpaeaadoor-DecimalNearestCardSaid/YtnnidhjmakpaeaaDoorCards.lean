/-
  DERIVED. GIVEN WITH THE SEED: THE CARDS: each row of YtnnidhjmakpaeaaDoorRows.lean that lists a variable, with what it lists TIED to the program's text (the seventh form; the later family's looks); each row that meets fmt, with fmt's text TOLD by the authors' own Lean function (tested against real Go, not proved from fmt's source: count such statements apart). THE CARD IS WHAT COUNTS. Prove the row's statement (the work); the ties are given (YtnnidhjmakpaeaaDoorTie.lean); close each card by the builder's one call (the guide's Derived/Test/ToyasCard.lean, 'card_holds'). Laid BY PROGRAM, IN A SANDBOX (cutbox-door.mjs). By AI agents, Wed Nov 11 2026. No macro, syntax, notation, axiom, sorry.
-/
import Derived.Test.YtnnidhjmakpaeaaDoorRows
import GoSem.ClaimSeven
namespace Go.Proofs.YtnnidhjmakpaeaaDoor
namespace Rows

/-- THE TIED CARD OF 'calquelaw07.DecimalOperands'. -/
def decimalOperandsCard : Claim7 := { stood := { row := decimalOperandsRow, standIns := [], harness := (true, "a8fceb8a4a046216dcf9676452f5cdae9c3643ae5079bc2e2ddbd132def52f85"), looks := true }, kinds := [], alts := [], laidByText := true, laidKinds := [.data, .data, .data, .data, .sentinel, .sentinel, .pinned], laidTests := true, laidLooks := .later }
def DecimalOperandsCardSaid : Prop := Claim7.holds Tryd.pinned (.plain (OpenSpec.ofChange decimalOperandsSpec)) decimalOperandsCard

/-- THE TIED CARD OF 'calquelaw07.DecimalShift'. -/
def decimalShiftCard : Claim7 := { stood := { row := decimalShiftRow, standIns := [], harness := (true, "a8fceb8a4a046216dcf9676452f5cdae9c3643ae5079bc2e2ddbd132def52f85"), looks := true }, kinds := [], alts := [], laidByText := true, laidKinds := [.data, .data, .data, .data, .sentinel, .sentinel, .pinned], laidTests := true, laidLooks := .later }
def DecimalShiftCardSaid : Prop := Claim7.holds Tryd.pinned (.plain (OpenSpec.ofChange decimalShiftSpec)) decimalShiftCard

/-- THE TIED CARD OF 'calquelaw07.DecimalValid'. -/
def decimalValidCard : Claim7 := { stood := { row := decimalValidRow, standIns := [], harness := (true, "a8fceb8a4a046216dcf9676452f5cdae9c3643ae5079bc2e2ddbd132def52f85"), looks := true }, kinds := [], alts := [], laidByText := true, laidKinds := [.data, .data, .data, .data, .sentinel, .sentinel, .pinned], laidTests := true, laidLooks := .later }
def DecimalValidCardSaid : Prop := Claim7.holds Tryd.pinned (.plain (OpenSpec.ofChange decimalValidSpec)) decimalValidCard

/-- THE TIED CARD OF 'calquelaw07.DecimalRound'. -/
def decimalRoundCard : Claim7 := { stood := { row := decimalRoundRow, standIns := [], harness := (true, "a8fceb8a4a046216dcf9676452f5cdae9c3643ae5079bc2e2ddbd132def52f85"), looks := true }, kinds := [], alts := [], laidByText := true, laidKinds := [.data, .data, .data, .data, .sentinel, .sentinel, .pinned], laidTests := true, laidLooks := .later }
def DecimalRoundCardSaid : Prop := Claim7.holds Tryd.pinned (.plain (OpenSpec.ofChange decimalRoundSpec)) decimalRoundCard

/-- THE TIED CARD OF 'calquelaw07.DecimalNearest'. -/
def decimalNearestCard : Claim7 := { stood := { row := decimalNearestRow, standIns := [], harness := (true, "a8fceb8a4a046216dcf9676452f5cdae9c3643ae5079bc2e2ddbd132def52f85"), looks := true }, kinds := [], alts := [], laidByText := true, laidKinds := [.data, .data, .data, .data, .sentinel, .sentinel, .pinned], laidTests := true, laidLooks := .later }
def DecimalNearestCardSaid : Prop := Claim7.holds Tryd.pinned (.plain (OpenSpec.ofChange decimalNearestSpec)) decimalNearestCard

/-- THE SECOND FORM's CARD OF 'calquelaw07.DecimalOperands'. -/
def decimalOperandsUptoCard : Claim7 := { stood := { row := decimalOperandsUptoRow, standIns := [], harness := (true, "a8fceb8a4a046216dcf9676452f5cdae9c3643ae5079bc2e2ddbd132def52f85"), looks := true }, kinds := [], alts := [], laidByText := true, laidKinds := [.data, .data, .data, .data, .sentinel, .sentinel, .pinned], laidTests := true, laidLooks := .later }
def DecimalOperandsUptoCardSaid : Prop := Claim7.holds Tryd.pinned (.plain (OpenSpec.upto decimalOperandsSpec)) decimalOperandsUptoCard

/-- THE SECOND FORM's CARD OF 'calquelaw07.DecimalShift'. -/
def decimalShiftUptoCard : Claim7 := { stood := { row := decimalShiftUptoRow, standIns := [], harness := (true, "a8fceb8a4a046216dcf9676452f5cdae9c3643ae5079bc2e2ddbd132def52f85"), looks := true }, kinds := [], alts := [], laidByText := true, laidKinds := [.data, .data, .data, .data, .sentinel, .sentinel, .pinned], laidTests := true, laidLooks := .later }
def DecimalShiftUptoCardSaid : Prop := Claim7.holds Tryd.pinned (.plain (OpenSpec.upto decimalShiftSpec)) decimalShiftUptoCard

/-- THE SECOND FORM's CARD OF 'calquelaw07.DecimalValid'. -/
def decimalValidUptoCard : Claim7 := { stood := { row := decimalValidUptoRow, standIns := [], harness := (true, "a8fceb8a4a046216dcf9676452f5cdae9c3643ae5079bc2e2ddbd132def52f85"), looks := true }, kinds := [], alts := [], laidByText := true, laidKinds := [.data, .data, .data, .data, .sentinel, .sentinel, .pinned], laidTests := true, laidLooks := .later }
def DecimalValidUptoCardSaid : Prop := Claim7.holds Tryd.pinned (.plain (OpenSpec.upto decimalValidSpec)) decimalValidUptoCard

/-- THE SECOND FORM's CARD OF 'calquelaw07.DecimalRound'. -/
def decimalRoundUptoCard : Claim7 := { stood := { row := decimalRoundUptoRow, standIns := [], harness := (true, "a8fceb8a4a046216dcf9676452f5cdae9c3643ae5079bc2e2ddbd132def52f85"), looks := true }, kinds := [], alts := [], laidByText := true, laidKinds := [.data, .data, .data, .data, .sentinel, .sentinel, .pinned], laidTests := true, laidLooks := .later }
def DecimalRoundUptoCardSaid : Prop := Claim7.holds Tryd.pinned (.plain (OpenSpec.upto decimalRoundSpec)) decimalRoundUptoCard

/-- THE SECOND FORM's CARD OF 'calquelaw07.DecimalNearest'. -/
def decimalNearestUptoCard : Claim7 := { stood := { row := decimalNearestUptoRow, standIns := [], harness := (true, "a8fceb8a4a046216dcf9676452f5cdae9c3643ae5079bc2e2ddbd132def52f85"), looks := true }, kinds := [], alts := [], laidByText := true, laidKinds := [.data, .data, .data, .data, .sentinel, .sentinel, .pinned], laidTests := true, laidLooks := .later }
def DecimalNearestUptoCardSaid : Prop := Claim7.holds Tryd.pinned (.plain (OpenSpec.upto decimalNearestSpec)) decimalNearestUptoCard
end Rows
end Go.Proofs.YtnnidhjmakpaeaaDoor
