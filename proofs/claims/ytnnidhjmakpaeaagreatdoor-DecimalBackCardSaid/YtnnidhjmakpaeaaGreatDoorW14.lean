/- Walks: Shift by the reference. -/
import Derived.Test.YtnnidhjmakpaeaaGreatDoorW13
namespace Go.Proofs.YtnnidhjmakpaeaaGreatDoor
open Go.RowKit
attribute [local go_sem] Ext.cell Ext.frozen
attribute [local go_sem ↓] Go.wp_at_zero Go.wp_at_succ

end Go.Proofs.YtnnidhjmakpaeaaGreatDoor
