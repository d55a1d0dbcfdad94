/- How the arguments of the laws are read. -/
import Derived.Test.YtnnidhjmakpaeaaGreatDoorRows
import Derived.Test.YtnnidhjmakpaeaaGreatDoorCards
import Derived.Test.YtnnidhjmakpaeaaGreatDoorTie
import Derived.Test.YtnnidhjmakpaeaaGreatDoorK
import Derived.ProofKit
import Derived.OpenShut
import Derived.ShutString
import Derived.ChangeOld
import Derived.Lib.SmallJoins
import Derived.LaidMore
import Derived.Lay
import Derived.SevenTiedAt
import Derived.Stop.Joined
namespace Go.Proofs.YtnnidhjmakpaeaaGreatDoor
open Go.ChangeShapes Go.WideShapes Go.ChangeAt Go.RowKit Go.Joins
theorem own : ownKnob Tryz.prog.godebug = none := by kernel_rfl
theorem laidOut : laidOutB Tryz.prog = true := by kernel_rfl
end Go.Proofs.YtnnidhjmakpaeaaGreatDoor
