/- The walk with the frame's own facts. -/
import Derived.Test.YtaolbfbnjbpljaaDoorQ13
import Derived.Shelf.Vars
import Derived.Test.YtaolbfbnjbpljaaDoorRows
import Derived.Test.YtaolbfbnjbpljaaDoorCards
import Derived.Test.YtaolbfbnjbpljaaDoorTie
import Derived.Test.YtaolbfbnjbpljaaDoorQ00
import Derived.ProofKit
import Derived.OpenShut
import Derived.ShutString
import Derived.ChangeOld
import Derived.Lib.SmallJoins
import Derived.LaidMore
import Derived.Lay
import Derived.SevenTiedAt
import Derived.Stop.Joined
namespace Go.Proofs.YtaolbfbnjbpljaaDoor
open Go.RowKit
theorem maxLenY_of {W : World} (h : W.ShapedOpen Tryd.prog) : MaxLenY W :=
  cell_of_shapedOpen_int (g := 0) (t := 3) (k := .i64) (zero := #[.int .i64 0]) h (by decide +kernel) (by kernel_rfl) rfl (by kernel_rfl) (by kernel_rfl) Tryd.underlying3
theorem validatePatterns_walk2 (sa sb : ByteArray) (z : Int) (w : World) (hsa : sa.size ≤ 9223372036854775807) (hsb : sb.size ≤ 9223372036854775807) (hz : (Lit.int .i64 z).wf = true) (hM : MaxLenY w) :
    Calls Tryd.prog 3 #[.string sa, .string sb, .int .i64 z] w fun e w' => e = .returned (.bool true) ∧ Below w.heap.size w w' :=
  validatePatterns_walk sa sb z w hsa hsb (by simp [Lit.wf, IntKind.min, IntKind.max, IntKind.signed, IntKind.bits] at hz; omega) hM
end Go.Proofs.YtaolbfbnjbpljaaDoor
/- How the arguments of the laws are read. -/
namespace Go.Proofs.YtaolbfbnjbpljaaDoor
open Go.ChangeShapes Go.WideShapes Go.ChangeAt Go.RowKit Go.Joins
theorem own : ownKnob Tryd.prog.godebug = none := by kernel_rfl
theorem laidOut : laidOutB Tryd.prog = true := by kernel_rfl
end Go.Proofs.YtaolbfbnjbpljaaDoor
