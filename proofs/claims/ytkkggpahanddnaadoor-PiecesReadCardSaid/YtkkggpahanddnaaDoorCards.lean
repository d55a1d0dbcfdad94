/-
  DERIVED. GIVEN WITH THE SEED: THE CARDS: each row of YtkkggpahanddnaaDoorRows.lean that lists a variable, with what it lists TIED to the program's text (the seventh form; the later family's looks); each row that meets fmt, with fmt's text TOLD by the authors' own Lean function (tested against real Go, not proved from fmt's source: count such statements apart). THE CARD IS WHAT COUNTS. Prove the row's statement (the work); the ties are given (YtkkggpahanddnaaDoorTie.lean); close each card by the builder's one call (the guide's Derived/Test/ToyasCard.lean, 'card_holds'). Laid BY PROGRAM, IN A SANDBOX (cutbox-door.mjs). By AI agents, Wed Nov 11 2026. No macro, syntax, notation, axiom, sorry.
-/
import Derived.Test.YtkkggpahanddnaaDoorRows
import GoSem.ClaimSeven
namespace Go.Proofs.YtkkggpahanddnaaDoor
namespace Rows

/-- THE TIED CARD OF 'calquelaw37.PiecesDiff'. -/
def piecesDiffCard : Claim7 := { stood := { row := piecesDiffRow, standIns := [], harness := (true, "efc16c150bd8a079ed20abb9e83b2512658c21054536f9f11f04808dc99df498"), looks := true }, kinds := [], alts := [], laidByText := true, laidKinds := [.data, .data, .data], laidTests := true, laidLooks := .later }
def PiecesDiffCardSaid : Prop := Claim7.holds Tryd.pinned (.plain (OpenSpec.ofChange piecesDiffSpec)) piecesDiffCard

/-- THE TIED CARD OF 'calquelaw37.PiecesBody'. -/
def piecesBodyCard : Claim7 := { stood := { row := piecesBodyRow, standIns := [], harness := (true, "efc16c150bd8a079ed20abb9e83b2512658c21054536f9f11f04808dc99df498"), looks := true }, kinds := [], alts := [], laidByText := true, laidKinds := [.data, .data, .data], laidTests := true, laidLooks := .later }
def PiecesBodyCardSaid : Prop := Claim7.holds Tryd.pinned (.plain (OpenSpec.ofChange piecesBodySpec)) piecesBodyCard

/-- THE TIED CARD OF 'calquelaw37.PiecesOther'. -/
def piecesOtherCard : Claim7 := { stood := { row := piecesOtherRow, standIns := [], harness := (true, "efc16c150bd8a079ed20abb9e83b2512658c21054536f9f11f04808dc99df498"), looks := true }, kinds := [], alts := [], laidByText := true, laidKinds := [.data, .data, .data], laidTests := true, laidLooks := .later }
def PiecesOtherCardSaid : Prop := Claim7.holds Tryd.pinned (.plain (OpenSpec.ofChange piecesOtherSpec)) piecesOtherCard

/-- THE TIED CARD OF 'calquelaw37.PiecesApply'. -/
def piecesApplyCard : Claim7 := { stood := { row := piecesApplyRow, standIns := [], harness := (true, "efc16c150bd8a079ed20abb9e83b2512658c21054536f9f11f04808dc99df498"), looks := true }, kinds := [], alts := [], laidByText := true, laidKinds := [.data, .data, .data], laidTests := true, laidLooks := .later }
def PiecesApplyCardSaid : Prop := Claim7.holds Tryd.pinned (.plain (OpenSpec.ofChange piecesApplySpec)) piecesApplyCard

/-- THE TIED CARD OF 'calquelaw37.PiecesInverse'. -/
def piecesInverseCard : Claim7 := { stood := { row := piecesInverseRow, standIns := [], harness := (true, "efc16c150bd8a079ed20abb9e83b2512658c21054536f9f11f04808dc99df498"), looks := true }, kinds := [], alts := [], laidByText := true, laidKinds := [.data, .data, .data], laidTests := true, laidLooks := .later }
def PiecesInverseCardSaid : Prop := Claim7.holds Tryd.pinned (.plain (OpenSpec.ofChange piecesInverseSpec)) piecesInverseCard

/-- THE TIED CARD OF 'calquelaw37.PiecesLeast'. -/
def piecesLeastCard : Claim7 := { stood := { row := piecesLeastRow, standIns := [], harness := (true, "efc16c150bd8a079ed20abb9e83b2512658c21054536f9f11f04808dc99df498"), looks := true }, kinds := [], alts := [], laidByText := true, laidKinds := [.data, .data, .data], laidTests := true, laidLooks := .later }
def PiecesLeastCardSaid : Prop := Claim7.holds Tryd.pinned (.plain (OpenSpec.ofChange piecesLeastSpec)) piecesLeastCard

/-- THE TIED CARD OF 'calquelaw37.PiecesRead'. -/
def piecesReadCard : Claim7 := { stood := { row := piecesReadRow, standIns := [], harness := (true, "efc16c150bd8a079ed20abb9e83b2512658c21054536f9f11f04808dc99df498"), looks := true }, kinds := [], alts := [], laidByText := true, laidKinds := [.data, .data, .data, .sentinel, .sentinel], laidTests := true, laidLooks := .later }
def PiecesReadCardSaid : Prop := Claim7.holds Tryd.pinned (.plain (OpenSpec.ofChange piecesReadSpec)) piecesReadCard

/-- THE SECOND FORM's CARD OF 'calquelaw37.PiecesDiff'. -/
def piecesDiffUptoCard : Claim7 := { stood := { row := piecesDiffUptoRow, standIns := [], harness := (true, "efc16c150bd8a079ed20abb9e83b2512658c21054536f9f11f04808dc99df498"), looks := true }, kinds := [], alts := [], laidByText := true, laidKinds := [.data, .data, .data], laidTests := true, laidLooks := .later }
def PiecesDiffUptoCardSaid : Prop := Claim7.holds Tryd.pinned (.plain (OpenSpec.upto piecesDiffSpec)) piecesDiffUptoCard

/-- THE SECOND FORM's CARD OF 'calquelaw37.PiecesBody'. -/
def piecesBodyUptoCard : Claim7 := { stood := { row := piecesBodyUptoRow, standIns := [], harness := (true, "efc16c150bd8a079ed20abb9e83b2512658c21054536f9f11f04808dc99df498"), looks := true }, kinds := [], alts := [], laidByText := true, laidKinds := [.data, .data, .data], laidTests := true, laidLooks := .later }
def PiecesBodyUptoCardSaid : Prop := Claim7.holds Tryd.pinned (.plain (OpenSpec.upto piecesBodySpec)) piecesBodyUptoCard

/-- THE SECOND FORM's CARD OF 'calquelaw37.PiecesOther'. -/
def piecesOtherUptoCard : Claim7 := { stood := { row := piecesOtherUptoRow, standIns := [], harness := (true, "efc16c150bd8a079ed20abb9e83b2512658c21054536f9f11f04808dc99df498"), looks := true }, kinds := [], alts := [], laidByText := true, laidKinds := [.data, .data, .data], laidTests := true, laidLooks := .later }
def PiecesOtherUptoCardSaid : Prop := Claim7.holds Tryd.pinned (.plain (OpenSpec.upto piecesOtherSpec)) piecesOtherUptoCard

/-- THE SECOND FORM's CARD OF 'calquelaw37.PiecesApply'. -/
def piecesApplyUptoCard : Claim7 := { stood := { row := piecesApplyUptoRow, standIns := [], harness := (true, "efc16c150bd8a079ed20abb9e83b2512658c21054536f9f11f04808dc99df498"), looks := true }, kinds := [], alts := [], laidByText := true, laidKinds := [.data, .data, .data], laidTests := true, laidLooks := .later }
def PiecesApplyUptoCardSaid : Prop := Claim7.holds Tryd.pinned (.plain (OpenSpec.upto piecesApplySpec)) piecesApplyUptoCard

/-- THE SECOND FORM's CARD OF 'calquelaw37.PiecesInverse'. -/
def piecesInverseUptoCard : Claim7 := { stood := { row := piecesInverseUptoRow, standIns := [], harness := (true, "efc16c150bd8a079ed20abb9e83b2512658c21054536f9f11f04808dc99df498"), looks := true }, kinds := [], alts := [], laidByText := true, laidKinds := [.data, .data, .data], laidTests := true, laidLooks := .later }
def PiecesInverseUptoCardSaid : Prop := Claim7.holds Tryd.pinned (.plain (OpenSpec.upto piecesInverseSpec)) piecesInverseUptoCard

/-- THE SECOND FORM's CARD OF 'calquelaw37.PiecesLeast'. -/
def piecesLeastUptoCard : Claim7 := { stood := { row := piecesLeastUptoRow, standIns := [], harness := (true, "efc16c150bd8a079ed20abb9e83b2512658c21054536f9f11f04808dc99df498"), looks := true }, kinds := [], alts := [], laidByText := true, laidKinds := [.data, .data, .data], laidTests := true, laidLooks := .later }
def PiecesLeastUptoCardSaid : Prop := Claim7.holds Tryd.pinned (.plain (OpenSpec.upto piecesLeastSpec)) piecesLeastUptoCard

/-- THE SECOND FORM's CARD OF 'calquelaw37.PiecesRead'. -/
def piecesReadUptoCard : Claim7 := { stood := { row := piecesReadUptoRow, standIns := [], harness := (true, "efc16c150bd8a079ed20abb9e83b2512658c21054536f9f11f04808dc99df498"), looks := true }, kinds := [], alts := [], laidByText := true, laidKinds := [.data, .data, .data, .sentinel, .sentinel], laidTests := true, laidLooks := .later }
def PiecesReadUptoCardSaid : Prop := Claim7.holds Tryd.pinned (.plain (OpenSpec.upto piecesReadSpec)) piecesReadUptoCard
end Rows
end Go.Proofs.YtkkggpahanddnaaDoor
