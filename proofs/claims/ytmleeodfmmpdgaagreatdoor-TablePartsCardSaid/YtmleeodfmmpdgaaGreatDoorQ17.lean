/- Walk: lexeme's Spell, of any tokens. -/
import Derived.Test.YtmleeodfmmpdgaaGreatDoorQ11
import Derived.Test.YtmleeodfmmpdgaaGreatDoorQ16
import Derived.Test.YtmleeodfmmpdgaaGreatDoorQ04
import Derived.Deep.DeepCutAuto
import Derived.Test.YtmleeodfmmpdgaaGreatDoorQ06
import Derived.Lib.ValidLaws
import Derived.Deep.QuietTactic
import Derived.BigQuiet
import Derived.Test.YtmleeodfmmpdgaaGreatDoorQ03
import Derived.Test.YtmleeodfmmpdgaaGreatDoorQ10
namespace Go.Proofs.YtmleeodfmmpdgaaGreatDoor
open Go.RowKit
attribute [local go_sem] Ext.cell Ext.frozen
attribute [local go_sem ↓] Go.wp_at_zero Go.wp_at_succ
def isMarkV (l : List UInt8) : Bool := decide (l.length = 1) && decide (l.getD 0 0 ∈ marksL)
/-- a token that can be spelled -/
def okZ (t : Tz) : Bool := (decide (t.1 = 1) && isWordV t.2.1) || (decide (t.1 = 3) && isMarkV t.2.1) || (decide (t.1 = 2) && isTextV t.2.1)
theorem okZ_1 (l : List UInt8) (p : Int) : okZ (1, l, p) = isWordV l := by simp [okZ]
theorem okZ_2 (l : List UInt8) (p : Int) : okZ (2, l, p) = isTextV l := by simp [okZ]
theorem okZ_3 (l : List UInt8) (p : Int) : okZ (3, l, p) = isMarkV l := by simp [okZ]
end Go.Proofs.YtmleeodfmmpdgaaGreatDoor
/- Walks: the reference's Point and One, of any number that four bytes hold. -/
namespace Go.Proofs.YtmleeodfmmpdgaaGreatDoor
open Go.RowKit
attribute [local go_sem] Ext.cell Ext.frozen
attribute [local go_sem ↓] Go.wp_at_zero Go.wp_at_succ
end Go.Proofs.YtmleeodfmmpdgaaGreatDoor
/- Plain: the decoder, by the size that a lead byte announces. -/
namespace Go.Proofs.YtmleeodfmmpdgaaGreatDoor
open Go.RowKit
attribute [local go_sem] Ext.cell Ext.frozen
attribute [local go_sem ↓] Go.wp_at_zero Go.wp_at_succ
/-- what Next answers -/
def NxtP (l : List UInt8) (w : World) (e : Ending) (w' : World) : Prop := e = .returned (.tuple #[.int .i64 ((Lib.decodeL l).1 : Int), .int .i64 ((Lib.decodeL l).2 : Int)]) ∧ Below w.heap.size w w'
theorem NxtP.of {l : List UInt8} {w w' : World} {a b : Nat} (h : Lib.decodeL l = (a, b)) (hb : Below w.heap.size w w') : NxtP l w (.returned (.tuple #[.int .i64 (a : Int), .int .i64 (b : Int)])) w' := ⟨by rw [h], hb⟩
end Go.Proofs.YtmleeodfmmpdgaaGreatDoor
/- Walk: the reference's Next, of any string that is not empty: it is the decoder's step. -/
namespace Go.Proofs.YtmleeodfmmpdgaaGreatDoor
open Go.RowKit
attribute [local go_sem] Ext.cell Ext.frozen
attribute [local go_sem ↓] Go.wp_at_zero Go.wp_at_succ
end Go.Proofs.YtmleeodfmmpdgaaGreatDoor
/- Walks: the reference's Decode, Encode and Valid: Valid is the decoder's. -/
namespace Go.Proofs.YtmleeodfmmpdgaaGreatDoor
open Go.RowKit
attribute [local go_sem] Ext.cell Ext.frozen
attribute [local go_sem ↓] Go.wp_at_zero Go.wp_at_succ
end Go.Proofs.YtmleeodfmmpdgaaGreatDoor
/- Walks: the reference's escaped form of a string. -/
namespace Go.Proofs.YtmleeodfmmpdgaaGreatDoor
open Go.RowKit
attribute [local go_sem] Ext.cell Ext.frozen
attribute [local go_sem ↓] Go.wp_at_zero Go.wp_at_succ
end Go.Proofs.YtmleeodfmmpdgaaGreatDoor
/- Walks: the reference's escaped form of a string. -/
namespace Go.Proofs.YtmleeodfmmpdgaaGreatDoor
open Go.RowKit
attribute [local go_sem] Ext.cell Ext.frozen
attribute [local go_sem ↓] Go.wp_at_zero Go.wp_at_succ
end Go.Proofs.YtmleeodfmmpdgaaGreatDoor
/- Walks: the reference's IsWord, IsText and Spell. -/
namespace Go.Proofs.YtmleeodfmmpdgaaGreatDoor
open Go.RowKit
attribute [local go_sem] Ext.cell Ext.frozen
attribute [local go_sem ↓] Go.wp_at_zero Go.wp_at_succ
end Go.Proofs.YtmleeodfmmpdgaaGreatDoor
