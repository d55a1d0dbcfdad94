/-
  DERIVED. GIVEN WITH THE SEED: THE CARDS: each row of YtaolbfbnjbpljaaDoorRows.lean that lists a variable, with what it lists TIED to the program's text (the seventh form; the later family's looks); each row that meets fmt, with fmt's text TOLD by the authors' own Lean function (tested against real Go, not proved from fmt's source: count such statements apart). THE CARD IS WHAT COUNTS. Prove the row's statement (the work); the ties are given (YtaolbfbnjbpljaaDoorTie.lean); close each card by the builder's one call (the guide's Derived/Test/ToyasCard.lean, 'card_holds'). Laid BY PROGRAM, IN A SANDBOX (cutbox-door.mjs). By AI agents, Wed Nov 11 2026. No macro, syntax, notation, axiom, sorry.
-/
import Derived.Test.YtaolbfbnjbpljaaDoorRows
import GoSem.ClaimSeven
namespace Go.Proofs.YtaolbfbnjbpljaaDoor
namespace Rows

/-- THE TIED CARD OF 'calquelaw13.ValidatePatterns'. -/
def validatePatternsCard : Claim7 := { stood := { row := validatePatternsRow, standIns := [], harness := (true, "187b34c1a1a2553ab751f702c962cfae9e185c0428888ad6df30cb1be956878b"), looks := false }, kinds := [], alts := [], laidByText := true, laidKinds := [.data, .data, .data, .data, .pinned], laidTests := true, laidLooks := .later }
def ValidatePatternsCardSaid : Prop := Claim7.holds Tryd.pinned (.plain (OpenSpec.ofChange validatePatternsSpec)) validatePatternsCard

/-- THE TIED CARD OF 'calquelaw18.DateOf'. -/
def dateOfCard : Claim7 := { stood := { row := dateOfRow, standIns := [], harness := (true, "187b34c1a1a2553ab751f702c962cfae9e185c0428888ad6df30cb1be956878b"), looks := false }, kinds := [], alts := [], laidByText := true, laidKinds := [.data, .data, .data, .data, .pinned], laidTests := true, laidLooks := .later }
def DateOfCardSaid : Prop := Claim7.holds Tryd.pinned (.plain (OpenSpec.ofChange dateOfSpec)) dateOfCard

/-- THE TIED CARD OF 'calquelaw18.DateBest'. -/
def dateBestCard : Claim7 := { stood := { row := dateBestRow, standIns := [], harness := (true, "187b34c1a1a2553ab751f702c962cfae9e185c0428888ad6df30cb1be956878b"), looks := false }, kinds := [], alts := [], laidByText := true, laidKinds := [.data, .data, .data, .data, .pinned], laidTests := true, laidLooks := .later }
def DateBestCardSaid : Prop := Claim7.holds Tryd.pinned (.plain (OpenSpec.ofChange dateBestSpec)) dateBestCard

/-- THE TIED CARD OF 'calquelaw18.DateDays'. -/
def dateDaysCard : Claim7 := { stood := { row := dateDaysRow, standIns := [], harness := (true, "187b34c1a1a2553ab751f702c962cfae9e185c0428888ad6df30cb1be956878b"), looks := false }, kinds := [], alts := [], laidByText := true, laidKinds := [.data, .data, .data, .data, .pinned], laidTests := true, laidLooks := .later }
def DateDaysCardSaid : Prop := Claim7.holds Tryd.pinned (.plain (OpenSpec.ofChange dateDaysSpec)) dateDaysCard

/-- THE TIED CARD OF 'calquelaw18.DateFields'. -/
def dateFieldsCard : Claim7 := { stood := { row := dateFieldsRow, standIns := [], harness := (true, "187b34c1a1a2553ab751f702c962cfae9e185c0428888ad6df30cb1be956878b"), looks := false }, kinds := [], alts := [], laidByText := true, laidKinds := [.data, .data, .data, .data, .pinned], laidTests := true, laidLooks := .later }
def DateFieldsCardSaid : Prop := Claim7.holds Tryd.pinned (.plain (OpenSpec.ofChange dateFieldsSpec)) dateFieldsCard

/-- THE SECOND FORM's CARD OF 'calquelaw13.ValidatePatterns'. -/
def validatePatternsUptoCard : Claim7 := { stood := { row := validatePatternsUptoRow, standIns := [], harness := (true, "187b34c1a1a2553ab751f702c962cfae9e185c0428888ad6df30cb1be956878b"), looks := false }, kinds := [], alts := [], laidByText := true, laidKinds := [.data, .data, .data, .data, .pinned], laidTests := true, laidLooks := .later }
def ValidatePatternsUptoCardSaid : Prop := Claim7.holds Tryd.pinned (.plain (OpenSpec.upto validatePatternsSpec)) validatePatternsUptoCard

/-- THE SECOND FORM's CARD OF 'calquelaw18.DateOf'. -/
def dateOfUptoCard : Claim7 := { stood := { row := dateOfUptoRow, standIns := [], harness := (true, "187b34c1a1a2553ab751f702c962cfae9e185c0428888ad6df30cb1be956878b"), looks := false }, kinds := [], alts := [], laidByText := true, laidKinds := [.data, .data, .data, .data, .pinned], laidTests := true, laidLooks := .later }
def DateOfUptoCardSaid : Prop := Claim7.holds Tryd.pinned (.plain (OpenSpec.upto dateOfSpec)) dateOfUptoCard

/-- THE SECOND FORM's CARD OF 'calquelaw18.DateBest'. -/
def dateBestUptoCard : Claim7 := { stood := { row := dateBestUptoRow, standIns := [], harness := (true, "187b34c1a1a2553ab751f702c962cfae9e185c0428888ad6df30cb1be956878b"), looks := false }, kinds := [], alts := [], laidByText := true, laidKinds := [.data, .data, .data, .data, .pinned], laidTests := true, laidLooks := .later }
def DateBestUptoCardSaid : Prop := Claim7.holds Tryd.pinned (.plain (OpenSpec.upto dateBestSpec)) dateBestUptoCard

/-- THE SECOND FORM's CARD OF 'calquelaw18.DateDays'. -/
def dateDaysUptoCard : Claim7 := { stood := { row := dateDaysUptoRow, standIns := [], harness := (true, "187b34c1a1a2553ab751f702c962cfae9e185c0428888ad6df30cb1be956878b"), looks := false }, kinds := [], alts := [], laidByText := true, laidKinds := [.data, .data, .data, .data, .pinned], laidTests := true, laidLooks := .later }
def DateDaysUptoCardSaid : Prop := Claim7.holds Tryd.pinned (.plain (OpenSpec.upto dateDaysSpec)) dateDaysUptoCard

/-- THE SECOND FORM's CARD OF 'calquelaw18.DateFields'. -/
def dateFieldsUptoCard : Claim7 := { stood := { row := dateFieldsUptoRow, standIns := [], harness := (true, "187b34c1a1a2553ab751f702c962cfae9e185c0428888ad6df30cb1be956878b"), looks := false }, kinds := [], alts := [], laidByText := true, laidKinds := [.data, .data, .data, .data, .pinned], laidTests := true, laidLooks := .later }
def DateFieldsUptoCardSaid : Prop := Claim7.holds Tryd.pinned (.plain (OpenSpec.upto dateFieldsSpec)) dateFieldsUptoCard
end Rows
end Go.Proofs.YtaolbfbnjbpljaaDoor
