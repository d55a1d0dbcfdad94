/- The frame of the laws whose argument is a list of keys. -/
import Derived.Test.YtboojpmahfjaoaaO
import Derived.Test.YtboojpmahfjaoaaA18
namespace Go.Proofs.Ytboojpmahfjaoaa
open Go.RowKit
attribute [local go_sem] Ext.cell Ext.frozen

theorem few_le {keys : List ByteArray} (h : (keys.all (fun s => decide (s.size ≤ 60)) && decide (keys.length ≤ 60)) = true) : keys.length ≤ 60 := by
  simp at h
  exact h.2
theorem few_size {keys : List ByteArray} (h : (keys.all (fun s => decide (s.size ≤ 60)) && decide (keys.length ≤ 60)) = true) : ∀ s ∈ keys, s.size ≤ 60 := by
  simp at h
  exact h.1
theorem sameT_refl (s : Int) (z : List Int) : sameT s s z z = true := by simp [sameT]
end Go.Proofs.Ytboojpmahfjaoaa
