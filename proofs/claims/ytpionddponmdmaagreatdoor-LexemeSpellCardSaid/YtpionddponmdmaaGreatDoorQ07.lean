/- Walks: the reference's documents: whether one is small, a piece, the body. -/
import Derived.Test.YtpionddponmdmaaGreatDoorQ06
import Derived.Test.YtpionddponmdmaaGreatDoorQ01
namespace Go.Proofs.YtpionddponmdmaaGreatDoor
open Go.RowKit
attribute [local go_sem] Ext.cell Ext.frozen
attribute [local go_sem ↓] Go.wp_at_zero Go.wp_at_succ

/-- all pieces are short, and there are few -/
def fewV (l : List ByteArray) : Bool := l.all (fun s => decide (s.size ≤ 2000)) && decide (l.length ≤ 22)
theorem fewV_facts {l : List ByteArray} (h : fewV l = true) : (∀ s ∈ l, s.size ≤ 2000) ∧ l.length ≤ 22 := by
  unfold fewV at h
  rw [Bool.and_eq_true, List.all_eq_true, decide_eq_true_eq] at h
  exact ⟨fun s hs => by simpa using h.1 s hs, h.2⟩
theorem SlPost.sl {w w' : World} {l : List ByteArray} {ad : Option Addr} {c : Nat} (h : w'.ownsRow w.heap.size 9 1 (.slice ad l.length c) l.length (strs l)) : Sl w' ad l.length (strs l) := Own.sl h
/-- a text and whether there is one -/
def getR (r : ByteArray × Bool) : Value := .tuple #[.string r.1, .bool r.2]
end Go.Proofs.YtpionddponmdmaaGreatDoor
/- Walks: pieces from one package to the other. -/
namespace Go.Proofs.YtpionddponmdmaaGreatDoor
open Go.RowKit
attribute [local go_sem] Ext.cell Ext.frozen
attribute [local go_sem ↓] Go.wp_at_zero Go.wp_at_succ

end Go.Proofs.YtpionddponmdmaaGreatDoor
