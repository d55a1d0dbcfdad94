/- How the arguments of the laws are read. -/
import Derived.Test.YtaolbfbnjbpljaaDoorRows
import Derived.Test.YtaolbfbnjbpljaaDoorCards
import Derived.Test.YtaolbfbnjbpljaaDoorTie
import Derived.Test.YtaolbfbnjbpljaaDoorK
import Derived.ProofKit
import Derived.OpenShut
import Derived.ShutString
import Derived.ChangeOld
import Derived.Lib.SmallJoins
import Derived.LaidMore
import Derived.Lay
import Derived.SevenTiedAt
import Derived.Stop.Joined
namespace Go.Proofs.YtaolbfbnjbpljaaDoor
open Go.ChangeShapes Go.WideShapes Go.ChangeAt Go.RowKit Go.Joins
theorem own : ownKnob Tryd.prog.godebug = none := by kernel_rfl
theorem laidOut : laidOutB Tryd.prog = true := by kernel_rfl
end Go.Proofs.YtaolbfbnjbpljaaDoor
