/- How the arguments of the laws are read. -/
import Derived.Test.YtpionddponmdmaaDoorRows
import Derived.Test.YtpionddponmdmaaDoorCards
import Derived.Test.YtpionddponmdmaaDoorTie
import Derived.Test.YtpionddponmdmaaDoorQ01
import Derived.ProofKit
import Derived.OpenShut
import Derived.ShutString
import Derived.ChangeOld
import Derived.Lib.SmallJoins
import Derived.LaidMore
import Derived.Lay
import Derived.SevenTiedAt
import Derived.Stop.Joined
import Derived.Test.YtpionddponmdmaaDoorQ13
import Derived.Lib.AppendIntMem
import Derived.Lib.ItoaLen
namespace Go.Proofs.YtpionddponmdmaaDoor
open Go.ChangeShapes Go.WideShapes Go.ChangeAt Go.RowKit Go.Joins
theorem own : ownKnob Tryd.prog.godebug = none := by kernel_rfl
theorem laidOut : laidOutB Tryd.prog = true := by kernel_rfl
end Go.Proofs.YtpionddponmdmaaDoor
/- Any number's digits; the laid tables. -/
namespace Go.Proofs.YtpionddponmdmaaDoor
open Go.RowKit
def TabTen (w : World) : Prop := Lib.TabBelow Tryd.prog w.heap.size w "internal/strconv.uint64pow10" .u64 Lib.pow10Tab
theorem TabTen.below {w w' : World} (h : TabTen w) (hb : Below w.heap.size w w') : TabTen w' := fun w2 h2 => h w2 (hb.trans (h2.mono hb.size))
theorem ItoaOk.any {n : Int} (h0 : -9223372036854775808 ≤ n) (h1 : n ≤ 9223372036854775807) {w : World} (ht : TabTen w) : ItoaOk n w :=
  ⟨Nat.le_trans (Lib.itoa_length_le n h0 h1) (by omega), fun w' g => (Tryd.strconv_Itoa n h0 h1 w' (ht w' g)).mono fun _ _ ⟨he, k, os, hw⟩ => ⟨he, by rw [hw]; exact Lib.below_grow _ w' (Nat.le_refl _) k os⟩⟩
end Go.Proofs.YtpionddponmdmaaDoor
