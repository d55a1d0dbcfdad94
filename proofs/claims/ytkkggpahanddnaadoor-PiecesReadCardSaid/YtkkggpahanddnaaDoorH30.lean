/- Any number's digits; the laid tables. -/
import Derived.Test.YtkkggpahanddnaaDoorH29
import Derived.Test.YtkkggpahanddnaaDoorO
import Derived.Lib.AppendIntMem
import Derived.Lib.ItoaLen
namespace Go.Proofs.YtkkggpahanddnaaDoor
open Go.RowKit
def TabTen (w : World) : Prop := Lib.TabBelow Tryd.prog w.heap.size w "internal/strconv.uint64pow10" .u64 Lib.pow10Tab
theorem TabTen.below {w w' : World} (h : TabTen w) (hb : Below w.heap.size w w') : TabTen w' := fun w2 h2 => h w2 (hb.trans (h2.mono hb.size))
theorem ItoaOk.any {n : Int} (h0 : -9223372036854775808 ≤ n) (h1 : n ≤ 9223372036854775807) {w : World} (ht : TabTen w) : ItoaOk n w :=
  ⟨Nat.le_trans (Lib.itoa_length_le n h0 h1) (by omega), fun w' g => (Tryd.strconv_Itoa n h0 h1 w' (ht w' g)).mono fun _ _ ⟨he, k, os, hw⟩ => ⟨he, by rw [hw]; exact Lib.below_grow _ w' (Nat.le_refl _) k os⟩⟩
theorem text_all (ad : Option Addr) (n c : Nat) (ps : List (Int × ByteArray)) (w : World) (hp : Pc w ad n ps) (hn : n ≤ 100000) (hs : ∀ p ∈ ps, p.2.size ≤ 2000) (hi : ∀ p ∈ ps, -9223372036854775808 ≤ p.1 ∧ p.1 ≤ 9223372036854775807) (ht : TabTen w) (hd : TabDeB w) :
    Calls Tryd.prog 31 #[.slice ad n c] w fun e w' => e = .returned (.string (bs (textV ps))) ∧ Below w.heap.size w w' :=
  text_any ad n c ps w hp hn hs (fun p hp => ItoaOk.any (hi p hp).1 (hi p hp).2 ht) (fun _ _ c _ => bsl_ok c hd)
end Go.Proofs.YtkkggpahanddnaaDoor
