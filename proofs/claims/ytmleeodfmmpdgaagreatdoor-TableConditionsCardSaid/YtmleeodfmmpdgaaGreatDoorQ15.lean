/- Walks: conditions, the program's parser: the next token. -/
import Derived.Test.YtmleeodfmmpdgaaGreatDoorQ13
import Derived.Test.YtmleeodfmmpdgaaGreatDoorQ14
import Derived.LoopN
namespace Go.Proofs.YtmleeodfmmpdgaaGreatDoor
open Go.RowKit
attribute [local go_sem] Ext.cell Ext.frozen
attribute [local go_sem ↓] Go.wp_at_zero Go.wp_at_succ

end Go.Proofs.YtmleeodfmmpdgaaGreatDoor
