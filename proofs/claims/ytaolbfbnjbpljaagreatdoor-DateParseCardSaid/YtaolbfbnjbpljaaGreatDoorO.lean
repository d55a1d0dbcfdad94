/- How the arguments of the laws are read. -/
import Derived.Test.YtaolbfbnjbpljaaGreatDoorRows
import Derived.Test.YtaolbfbnjbpljaaGreatDoorCards
import Derived.Test.YtaolbfbnjbpljaaGreatDoorTie
import Derived.Test.YtaolbfbnjbpljaaGreatDoorK
import Derived.ProofKit
import Derived.OpenShut
import Derived.ShutString
import Derived.ChangeOld
import Derived.Lib.SmallJoins
import Derived.LaidMore
import Derived.Lay
import Derived.SevenTiedAt
import Derived.Stop.Joined
namespace Go.Proofs.YtaolbfbnjbpljaaGreatDoor
open Go.ChangeShapes Go.WideShapes Go.ChangeAt Go.RowKit Go.Joins
theorem own : ownKnob Tryz.prog.godebug = none := by kernel_rfl
theorem laidOut : laidOutB Tryz.prog = true := by kernel_rfl
end Go.Proofs.YtaolbfbnjbpljaaGreatDoor
