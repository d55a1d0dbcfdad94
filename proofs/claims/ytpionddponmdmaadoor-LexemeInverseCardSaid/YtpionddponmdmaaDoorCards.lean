/-
  DERIVED. GIVEN WITH THE SEED: THE CARDS: each row of YtpionddponmdmaaDoorRows.lean that lists a variable, with what it lists TIED to the program's text (the seventh form; the later family's looks); each row that meets fmt, with fmt's text TOLD by the authors' own Lean function (tested against real Go, not proved from fmt's source: count such statements apart). THE CARD IS WHAT COUNTS. Prove the row's statement (the work); the ties are given (YtpionddponmdmaaDoorTie.lean); close each card by the builder's one call (the guide's Derived/Test/ToyasCard.lean, 'card_holds'). Laid BY PROGRAM, IN A SANDBOX (cutbox-door.mjs). By AI agents, Wed Nov 11 2026. No macro, syntax, notation, axiom, sorry.
-/
import Derived.Test.YtpionddponmdmaaDoorRows
import GoSem.ClaimSeven
namespace Go.Proofs.YtpionddponmdmaaDoor
namespace Rows

/-- THE TIED CARD OF 'calquelaw11.LexemeTokens'. -/
def lexemeTokensCard : Claim7 := { stood := { row := lexemeTokensRow, standIns := [], harness := (true, "f4eba209f639301ada778a227ac169ad4c839dd894b961ec5410e5cf083ec406"), looks := false }, kinds := [], alts := [], laidByText := true, laidKinds := [.data, .pinned], laidTests := true, laidLooks := .later }
def LexemeTokensCardSaid : Prop := Claim7.holds Tryd.pinned (.plain (OpenSpec.ofChange lexemeTokensSpec)) lexemeTokensCard

/-- THE TIED CARD OF 'calquelaw11.LexemePlaces'. -/
def lexemePlacesCard : Claim7 := { stood := { row := lexemePlacesRow, standIns := [], harness := (true, "f4eba209f639301ada778a227ac169ad4c839dd894b961ec5410e5cf083ec406"), looks := false }, kinds := [], alts := [], laidByText := true, laidKinds := [.data, .pinned], laidTests := true, laidLooks := .later }
def LexemePlacesCardSaid : Prop := Claim7.holds Tryd.pinned (.plain (OpenSpec.ofChange lexemePlacesSpec)) lexemePlacesCard

/-- THE TIED CARD OF 'calquelaw11.LexemeBlanks'. -/
def lexemeBlanksCard : Claim7 := { stood := { row := lexemeBlanksRow, standIns := [], harness := (true, "f4eba209f639301ada778a227ac169ad4c839dd894b961ec5410e5cf083ec406"), looks := false }, kinds := [], alts := [], laidByText := true, laidKinds := [.data, .pinned], laidTests := true, laidLooks := .later }
def LexemeBlanksCardSaid : Prop := Claim7.holds Tryd.pinned (.plain (OpenSpec.ofChange lexemeBlanksSpec)) lexemeBlanksCard

/-- THE TIED CARD OF 'calquelaw11.LexemeInverse'. -/
def lexemeInverseCard : Claim7 := { stood := { row := lexemeInverseRow, standIns := [], harness := (true, "f4eba209f639301ada778a227ac169ad4c839dd894b961ec5410e5cf083ec406"), looks := false }, kinds := [], alts := [], laidByText := true, laidKinds := [.data, .data, .data, .data, .pinned], laidTests := true, laidLooks := .later }
def LexemeInverseCardSaid : Prop := Claim7.holds Tryd.pinned (.plain (OpenSpec.ofChange lexemeInverseSpec)) lexemeInverseCard

/-- THE SECOND FORM's CARD OF 'calquelaw11.LexemeTokens'. -/
def lexemeTokensUptoCard : Claim7 := { stood := { row := lexemeTokensUptoRow, standIns := [], harness := (true, "f4eba209f639301ada778a227ac169ad4c839dd894b961ec5410e5cf083ec406"), looks := false }, kinds := [], alts := [], laidByText := true, laidKinds := [.data, .pinned], laidTests := true, laidLooks := .later }
def LexemeTokensUptoCardSaid : Prop := Claim7.holds Tryd.pinned (.plain (OpenSpec.upto lexemeTokensSpec)) lexemeTokensUptoCard

/-- THE SECOND FORM's CARD OF 'calquelaw11.LexemePlaces'. -/
def lexemePlacesUptoCard : Claim7 := { stood := { row := lexemePlacesUptoRow, standIns := [], harness := (true, "f4eba209f639301ada778a227ac169ad4c839dd894b961ec5410e5cf083ec406"), looks := false }, kinds := [], alts := [], laidByText := true, laidKinds := [.data, .pinned], laidTests := true, laidLooks := .later }
def LexemePlacesUptoCardSaid : Prop := Claim7.holds Tryd.pinned (.plain (OpenSpec.upto lexemePlacesSpec)) lexemePlacesUptoCard

/-- THE SECOND FORM's CARD OF 'calquelaw11.LexemeBlanks'. -/
def lexemeBlanksUptoCard : Claim7 := { stood := { row := lexemeBlanksUptoRow, standIns := [], harness := (true, "f4eba209f639301ada778a227ac169ad4c839dd894b961ec5410e5cf083ec406"), looks := false }, kinds := [], alts := [], laidByText := true, laidKinds := [.data, .pinned], laidTests := true, laidLooks := .later }
def LexemeBlanksUptoCardSaid : Prop := Claim7.holds Tryd.pinned (.plain (OpenSpec.upto lexemeBlanksSpec)) lexemeBlanksUptoCard

/-- THE SECOND FORM's CARD OF 'calquelaw11.LexemeInverse'. -/
def lexemeInverseUptoCard : Claim7 := { stood := { row := lexemeInverseUptoRow, standIns := [], harness := (true, "f4eba209f639301ada778a227ac169ad4c839dd894b961ec5410e5cf083ec406"), looks := false }, kinds := [], alts := [], laidByText := true, laidKinds := [.data, .data, .data, .data, .pinned], laidTests := true, laidLooks := .later }
def LexemeInverseUptoCardSaid : Prop := Claim7.holds Tryd.pinned (.plain (OpenSpec.upto lexemeInverseSpec)) lexemeInverseUptoCard
end Rows
end Go.Proofs.YtpionddponmdmaaDoor
