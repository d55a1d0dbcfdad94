/- How the arguments of the laws are read. -/
import Derived.Test.YtkkggpahanddnaaDoorRows
import Derived.Test.YtkkggpahanddnaaDoorCards
import Derived.Test.YtkkggpahanddnaaDoorTie
import Derived.Test.YtkkggpahanddnaaDoorK
import Derived.ProofKit
import Derived.OpenShut
import Derived.ShutString
import Derived.ChangeOld
import Derived.Lib.SmallJoins
import Derived.LaidMore
import Derived.Lay
import Derived.SevenTiedAt
import Derived.Stop.Joined
namespace Go.Proofs.YtkkggpahanddnaaDoor
open Go.ChangeShapes Go.WideShapes Go.ChangeAt Go.RowKit Go.Joins
theorem own : ownKnob Tryd.prog.godebug = none := by kernel_rfl
theorem laidOut : laidOutB Tryd.prog = true := by kernel_rfl
end Go.Proofs.YtkkggpahanddnaaDoor
