/-
  DERIVED. GIVEN WITH THE SEED: THE CARDS: each row of YtadhblppeaamlaaGreatDoorRows.lean that lists a variable, with what it lists TIED to the program's text (the seventh form; the later family's looks); each row that meets fmt, with fmt's text TOLD by the authors' own Lean function (tested against real Go, not proved from fmt's source: count such statements apart). THE CARD IS WHAT COUNTS. Prove the row's statement (the work); the ties are given (YtadhblppeaamlaaGreatDoorTie.lean); close each card by the builder's one call (the guide's Derived/Test/ToyasCard.lean, 'card_holds'). Laid BY PROGRAM, IN A SANDBOX (cutbox-door.mjs). By AI agents, Wed Nov 11 2026. No macro, syntax, notation, axiom, sorry.
-/
import Derived.Test.YtadhblppeaamlaaGreatDoorRows
import GoSem.ClaimSeven
namespace Go.Proofs.YtadhblppeaamlaaGreatDoor
namespace Rows

/-- THE TIED CARD OF 'calquelaw31.ChooseCase'. -/
def chooseCaseCard : Claim7 := { stood := { row := chooseCaseRow, standIns := [], harness := (true, "464bfdbc3108af481410905d9195075c041fcf9458af466327a56436957ef0fa"), looks := true }, kinds := [], alts := [], laidByText := true, laidKinds := [.data, .data, .data, .data, .sentinel, .sentinel, .pinned], laidTests := true, laidLooks := .later }
def ChooseCaseCardSaid : Prop := Claim7.holds Tryz.pinned (.plain (OpenSpec.ofChange chooseCaseSpec)) chooseCaseCard

/-- THE TIED CARD OF 'calquelaw31.ChooseOrder'. -/
def chooseOrderCard : Claim7 := { stood := { row := chooseOrderRow, standIns := [], harness := (true, "464bfdbc3108af481410905d9195075c041fcf9458af466327a56436957ef0fa"), looks := true }, kinds := [], alts := [], laidByText := true, laidKinds := [.data, .data, .data, .data, .sentinel, .sentinel, .pinned], laidTests := true, laidLooks := .later }
def ChooseOrderCardSaid : Prop := Claim7.holds Tryz.pinned (.plain (OpenSpec.ofChange chooseOrderSpec)) chooseOrderCard

/-- THE TIED CARD OF 'calquelaw31.ChooseMore'. -/
def chooseMoreCard : Claim7 := { stood := { row := chooseMoreRow, standIns := [], harness := (true, "464bfdbc3108af481410905d9195075c041fcf9458af466327a56436957ef0fa"), looks := true }, kinds := [], alts := [], laidByText := true, laidKinds := [.data, .data, .data, .data, .sentinel, .sentinel, .pinned], laidTests := true, laidLooks := .later }
def ChooseMoreCardSaid : Prop := Claim7.holds Tryz.pinned (.plain (OpenSpec.ofChange chooseMoreSpec)) chooseMoreCard

/-- THE TIED CARD OF 'calquelaw31.ChooseOne'. -/
def chooseOneCard : Claim7 := { stood := { row := chooseOneRow, standIns := [], harness := (true, "464bfdbc3108af481410905d9195075c041fcf9458af466327a56436957ef0fa"), looks := true }, kinds := [], alts := [], laidByText := true, laidKinds := [.data, .data, .data, .data, .sentinel, .sentinel, .pinned], laidTests := true, laidLooks := .later }
def ChooseOneCardSaid : Prop := Claim7.holds Tryz.pinned (.plain (OpenSpec.ofChange chooseOneSpec)) chooseOneCard

/-- THE TIED CARD OF 'calquelaw31.ChooseKey'. -/
def chooseKeyCard : Claim7 := { stood := { row := chooseKeyRow, standIns := [], harness := (true, "464bfdbc3108af481410905d9195075c041fcf9458af466327a56436957ef0fa"), looks := true }, kinds := [], alts := [], laidByText := true, laidKinds := [.data, .data, .data, .data, .sentinel, .sentinel, .pinned], laidTests := true, laidLooks := .later }
def ChooseKeyCardSaid : Prop := Claim7.holds Tryz.pinned (.plain (OpenSpec.ofChange chooseKeySpec)) chooseKeyCard

/-- THE TIED CARD OF 'calquelaw31.ChooseExact'. -/
def chooseExactCard : Claim7 := { stood := { row := chooseExactRow, standIns := [], harness := (true, "464bfdbc3108af481410905d9195075c041fcf9458af466327a56436957ef0fa"), looks := true }, kinds := [], alts := [], laidByText := true, laidKinds := [.data, .data, .data, .data, .sentinel, .sentinel, .pinned], laidTests := true, laidLooks := .later }
def ChooseExactCardSaid : Prop := Claim7.holds Tryz.pinned (.plain (OpenSpec.ofChange chooseExactSpec)) chooseExactCard

/-- THE SECOND FORM's CARD OF 'calquelaw31.ChooseCase'. -/
def chooseCaseUptoCard : Claim7 := { stood := { row := chooseCaseUptoRow, standIns := [], harness := (true, "464bfdbc3108af481410905d9195075c041fcf9458af466327a56436957ef0fa"), looks := true }, kinds := [], alts := [], laidByText := true, laidKinds := [.data, .data, .data, .data, .sentinel, .sentinel, .pinned], laidTests := true, laidLooks := .later }
def ChooseCaseUptoCardSaid : Prop := Claim7.holds Tryz.pinned (.plain (OpenSpec.upto chooseCaseSpec)) chooseCaseUptoCard

/-- THE SECOND FORM's CARD OF 'calquelaw31.ChooseOrder'. -/
def chooseOrderUptoCard : Claim7 := { stood := { row := chooseOrderUptoRow, standIns := [], harness := (true, "464bfdbc3108af481410905d9195075c041fcf9458af466327a56436957ef0fa"), looks := true }, kinds := [], alts := [], laidByText := true, laidKinds := [.data, .data, .data, .data, .sentinel, .sentinel, .pinned], laidTests := true, laidLooks := .later }
def ChooseOrderUptoCardSaid : Prop := Claim7.holds Tryz.pinned (.plain (OpenSpec.upto chooseOrderSpec)) chooseOrderUptoCard

/-- THE SECOND FORM's CARD OF 'calquelaw31.ChooseMore'. -/
def chooseMoreUptoCard : Claim7 := { stood := { row := chooseMoreUptoRow, standIns := [], harness := (true, "464bfdbc3108af481410905d9195075c041fcf9458af466327a56436957ef0fa"), looks := true }, kinds := [], alts := [], laidByText := true, laidKinds := [.data, .data, .data, .data, .sentinel, .sentinel, .pinned], laidTests := true, laidLooks := .later }
def ChooseMoreUptoCardSaid : Prop := Claim7.holds Tryz.pinned (.plain (OpenSpec.upto chooseMoreSpec)) chooseMoreUptoCard

/-- THE SECOND FORM's CARD OF 'calquelaw31.ChooseOne'. -/
def chooseOneUptoCard : Claim7 := { stood := { row := chooseOneUptoRow, standIns := [], harness := (true, "464bfdbc3108af481410905d9195075c041fcf9458af466327a56436957ef0fa"), looks := true }, kinds := [], alts := [], laidByText := true, laidKinds := [.data, .data, .data, .data, .sentinel, .sentinel, .pinned], laidTests := true, laidLooks := .later }
def ChooseOneUptoCardSaid : Prop := Claim7.holds Tryz.pinned (.plain (OpenSpec.upto chooseOneSpec)) chooseOneUptoCard

/-- THE SECOND FORM's CARD OF 'calquelaw31.ChooseKey'. -/
def chooseKeyUptoCard : Claim7 := { stood := { row := chooseKeyUptoRow, standIns := [], harness := (true, "464bfdbc3108af481410905d9195075c041fcf9458af466327a56436957ef0fa"), looks := true }, kinds := [], alts := [], laidByText := true, laidKinds := [.data, .data, .data, .data, .sentinel, .sentinel, .pinned], laidTests := true, laidLooks := .later }
def ChooseKeyUptoCardSaid : Prop := Claim7.holds Tryz.pinned (.plain (OpenSpec.upto chooseKeySpec)) chooseKeyUptoCard

/-- THE SECOND FORM's CARD OF 'calquelaw31.ChooseExact'. -/
def chooseExactUptoCard : Claim7 := { stood := { row := chooseExactUptoRow, standIns := [], harness := (true, "464bfdbc3108af481410905d9195075c041fcf9458af466327a56436957ef0fa"), looks := true }, kinds := [], alts := [], laidByText := true, laidKinds := [.data, .data, .data, .data, .sentinel, .sentinel, .pinned], laidTests := true, laidLooks := .later }
def ChooseExactUptoCardSaid : Prop := Claim7.holds Tryz.pinned (.plain (OpenSpec.upto chooseExactSpec)) chooseExactUptoCard
end Rows
end Go.Proofs.YtadhblppeaamlaaGreatDoor
