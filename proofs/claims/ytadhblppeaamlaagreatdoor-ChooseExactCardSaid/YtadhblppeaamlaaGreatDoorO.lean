/- How the arguments of the laws are read. -/
import Derived.Test.YtadhblppeaamlaaGreatDoorRows
import Derived.Test.YtadhblppeaamlaaGreatDoorCards
import Derived.Test.YtadhblppeaamlaaGreatDoorTie
import Derived.Test.YtadhblppeaamlaaGreatDoorK
import Derived.ProofKit
import Derived.OpenShut
import Derived.ShutString
import Derived.ChangeOld
import Derived.Lib.SmallJoins
import Derived.LaidMore
import Derived.Lay
import Derived.SevenTiedAt
import Derived.Stop.Joined
namespace Go.Proofs.YtadhblppeaamlaaGreatDoor
open Go.ChangeShapes Go.WideShapes Go.ChangeAt Go.RowKit Go.Joins
theorem own : ownKnob Tryz.prog.godebug = none := by kernel_rfl
theorem laidOut : laidOutB Tryz.prog = true := by kernel_rfl
end Go.Proofs.YtadhblppeaamlaaGreatDoor
