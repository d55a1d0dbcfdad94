/- Walk: lexeme's Spell, of any tokens. -/
import Derived.Test.YtmleeodfmmpdgaaGreatDoorQ11
import Derived.Test.YtmleeodfmmpdgaaGreatDoorQ16
import Derived.Test.YtmleeodfmmpdgaaGreatDoorQ04
import Derived.Deep.DeepCutAuto
import Derived.Test.YtmleeodfmmpdgaaGreatDoorQ06
import Derived.Lib.ValidLaws
import Derived.Deep.QuietTactic
import Derived.BigQuiet
import Derived.Test.YtmleeodfmmpdgaaGreatDoorQ03
import Derived.Test.YtmleeodfmmpdgaaGreatDoorQ10
namespace Go.Proofs.YtmleeodfmmpdgaaGreatDoor
open Go.RowKit
attribute [local go_sem] Ext.cell Ext.frozen
attribute [local go_sem ↓] Go.wp_at_zero Go.wp_at_succ
def isMarkV (l : List UInt8) : Bool := decide (l.length = 1) && decide (l.getD 0 0 ∈ marksL)
def okZ (t : Tz) : Bool := (decide (t.1 = 1) && isWordV t.2.1) || (decide (t.1 = 3) && isMarkV t.2.1) || (decide (t.1 = 2) && isTextV t.2.1)
theorem okZ_1 (l : List UInt8) (p : Int) : okZ (1, l, p) = isWordV l := by simp [okZ]
theorem okZ_2 (l : List UInt8) (p : Int) : okZ (2, l, p) = isTextV l := by simp [okZ]
theorem okZ_3 (l : List UInt8) (p : Int) : okZ (3, l, p) = isMarkV l := by simp [okZ]

end Go.Proofs.YtmleeodfmmpdgaaGreatDoor
