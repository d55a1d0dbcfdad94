/-
  DERIVED. GIVEN WITH THE SEED: THE CARDS: each row of YtnnidhjmakpaeaaGreatDoorRows.lean that lists a variable, with what it lists TIED to the program's text (the seventh form; the later family's looks); each row that meets fmt, with fmt's text TOLD by the authors' own Lean function (tested against real Go, not proved from fmt's source: count such statements apart). THE CARD IS WHAT COUNTS. Prove the row's statement (the work); the ties are given (YtnnidhjmakpaeaaGreatDoorTie.lean); close each card by the builder's one call (the guide's Derived/Test/ToyasCard.lean, 'card_holds'). Laid BY PROGRAM, IN A SANDBOX (cutbox-door.mjs). By AI agents, Wed Nov 11 2026. No macro, syntax, notation, axiom, sorry.
-/
import Derived.Test.YtnnidhjmakpaeaaGreatDoorRows
import GoSem.ClaimSeven
namespace Go.Proofs.YtnnidhjmakpaeaaGreatDoor
namespace Rows

/-- THE TIED CARD OF 'calquelaw07.DecimalCompare'. -/
def decimalCompareCard : Claim7 := { stood := { row := decimalCompareRow, standIns := [], harness := (true, "6d730b52153a4e0983bd20d12ff5f2b1e61063822b8ac0e74c71fbd9cc71914c"), looks := true }, kinds := [], alts := [], laidByText := true, laidKinds := [.data, .data, .data, .data, .sentinel, .sentinel, .pinned], laidTests := true, laidLooks := .later }
def DecimalCompareCardSaid : Prop := Claim7.holds Tryz.pinned (.plain (OpenSpec.ofChange decimalCompareSpec)) decimalCompareCard

/-- THE TIED CARD OF 'calquelaw07.DecimalBack'. -/
def decimalBackCard : Claim7 := { stood := { row := decimalBackRow, standIns := [], harness := (true, "6d730b52153a4e0983bd20d12ff5f2b1e61063822b8ac0e74c71fbd9cc71914c"), looks := true }, kinds := [], alts := [], laidByText := true, laidKinds := [.data, .data, .data, .data, .sentinel, .sentinel, .pinned], laidTests := true, laidLooks := .later }
def DecimalBackCardSaid : Prop := Claim7.holds Tryz.pinned (.plain (OpenSpec.ofChange decimalBackSpec)) decimalBackCard

/-- THE TIED CARD OF 'calquelaw07.DecimalNormal'. -/
def decimalNormalCard : Claim7 := { stood := { row := decimalNormalRow, standIns := [], harness := (true, "6d730b52153a4e0983bd20d12ff5f2b1e61063822b8ac0e74c71fbd9cc71914c"), looks := true }, kinds := [], alts := [], laidByText := true, laidKinds := [.data, .data, .data, .data, .sentinel, .sentinel, .pinned], laidTests := true, laidLooks := .later }
def DecimalNormalCardSaid : Prop := Claim7.holds Tryz.pinned (.plain (OpenSpec.ofChange decimalNormalSpec)) decimalNormalCard

/-- THE TIED CARD OF 'calquelaw07.DecimalOrder'. -/
def decimalOrderCard : Claim7 := { stood := { row := decimalOrderRow, standIns := [], harness := (true, "6d730b52153a4e0983bd20d12ff5f2b1e61063822b8ac0e74c71fbd9cc71914c"), looks := true }, kinds := [], alts := [], laidByText := true, laidKinds := [.data, .data, .data, .data, .sentinel, .sentinel, .pinned], laidTests := true, laidLooks := .later }
def DecimalOrderCardSaid : Prop := Claim7.holds Tryz.pinned (.plain (OpenSpec.ofChange decimalOrderSpec)) decimalOrderCard

/-- THE SECOND FORM's CARD OF 'calquelaw07.DecimalCompare'. -/
def decimalCompareUptoCard : Claim7 := { stood := { row := decimalCompareUptoRow, standIns := [], harness := (true, "6d730b52153a4e0983bd20d12ff5f2b1e61063822b8ac0e74c71fbd9cc71914c"), looks := true }, kinds := [], alts := [], laidByText := true, laidKinds := [.data, .data, .data, .data, .sentinel, .sentinel, .pinned], laidTests := true, laidLooks := .later }
def DecimalCompareUptoCardSaid : Prop := Claim7.holds Tryz.pinned (.plain (OpenSpec.upto decimalCompareSpec)) decimalCompareUptoCard

/-- THE SECOND FORM's CARD OF 'calquelaw07.DecimalBack'. -/
def decimalBackUptoCard : Claim7 := { stood := { row := decimalBackUptoRow, standIns := [], harness := (true, "6d730b52153a4e0983bd20d12ff5f2b1e61063822b8ac0e74c71fbd9cc71914c"), looks := true }, kinds := [], alts := [], laidByText := true, laidKinds := [.data, .data, .data, .data, .sentinel, .sentinel, .pinned], laidTests := true, laidLooks := .later }
def DecimalBackUptoCardSaid : Prop := Claim7.holds Tryz.pinned (.plain (OpenSpec.upto decimalBackSpec)) decimalBackUptoCard

/-- THE SECOND FORM's CARD OF 'calquelaw07.DecimalNormal'. -/
def decimalNormalUptoCard : Claim7 := { stood := { row := decimalNormalUptoRow, standIns := [], harness := (true, "6d730b52153a4e0983bd20d12ff5f2b1e61063822b8ac0e74c71fbd9cc71914c"), looks := true }, kinds := [], alts := [], laidByText := true, laidKinds := [.data, .data, .data, .data, .sentinel, .sentinel, .pinned], laidTests := true, laidLooks := .later }
def DecimalNormalUptoCardSaid : Prop := Claim7.holds Tryz.pinned (.plain (OpenSpec.upto decimalNormalSpec)) decimalNormalUptoCard

/-- THE SECOND FORM's CARD OF 'calquelaw07.DecimalOrder'. -/
def decimalOrderUptoCard : Claim7 := { stood := { row := decimalOrderUptoRow, standIns := [], harness := (true, "6d730b52153a4e0983bd20d12ff5f2b1e61063822b8ac0e74c71fbd9cc71914c"), looks := true }, kinds := [], alts := [], laidByText := true, laidKinds := [.data, .data, .data, .data, .sentinel, .sentinel, .pinned], laidTests := true, laidLooks := .later }
def DecimalOrderUptoCardSaid : Prop := Claim7.holds Tryz.pinned (.plain (OpenSpec.upto decimalOrderSpec)) decimalOrderUptoCard
end Rows
end Go.Proofs.YtnnidhjmakpaeaaGreatDoor
