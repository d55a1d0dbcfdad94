/- Walks: Check by the program, whole. -/
import Derived.Test.YtkodnagneblgaaaG3
namespace Go.Proofs.Ytkodnagneblgaaa
open Go.RowKit Go.Maps Go.Sort
/-- the error -/
def errV (ts : List Tm) (source target : ByteArray) : Int := if validT ts = true then (if 20000 < source.size ∨ 20000 < target.size then 6 else 0) else 1
def resV (ts : List Tm) (source target : ByteArray) (fs : List (Nat × Nat)) : List (Nat × Nat) := if validT ts = true then (if 20000 < source.size ∨ 20000 < target.size then [] else fs) else []
/-- what Check answers -/
def ChkPost (E : TypeId) (er : Int) (fs : List (Nat × Nat)) (w : World) (e : Ending) (w' : World) : Prop :=
  ∃ ad' c', e = .returned (.tuple #[.slice ad' fs.length c', .int .i64 er]) ∧ FnR E w' w.heap.size (.slice ad' fs.length c') fs ∧ Below w.heap.size w w'
theorem pcheck_any (ts : List Tm) (source target : ByteArray) (ad : Option Addr) (n c : Nat) (w : World) (ht : TmAt w ad n ts) (hn : n ≤ 40) (hz : ∀ x ∈ ts, x.s.size ≤ 100000 ∧ x.t.size ≤ 100000) :
    Calls Try.prog 10 #[.slice ad n c, .string source, .string target] w (ChkPost 51 (errV ts source target) (resV ts source target (pfindings ts source target)) w) := by
  refine check_first ts source target ad n c w _ ht (by omega) hz ?_ ?_ ?_
  · intro w' hv hb
    have e1 : errV ts source target = 1 := by unfold errV; rw [if_neg (by rw [hv]; decide)]
    have e2 : resV ts source target (pfindings ts source target) = [] := by unfold resV; rw [if_neg (by rw [hv]; decide)]
    rw [e1, e2]
    exact ⟨none, 0, rfl, ⟨rfl, .inl ⟨rfl, rfl⟩⟩, hb⟩
  · intro w' hv hl hb
    have e1 : errV ts source target = 6 := by unfold errV; rw [if_pos hv, if_pos hl]
    have e2 : resV ts source target (pfindings ts source target) = [] := by unfold resV; rw [if_pos hv, if_pos hl]
    rw [e1, e2]
    exact ⟨none, 0, rfl, ⟨rfl, .inl ⟨rfl, rfl⟩⟩, hb⟩
  · intro wr v1 v2
    intros
    rename_i hv h1 h2 htw hb
    have e1 : errV ts source target = 0 := by unfold errV; rw [if_pos hv, if_neg (by omega)]
    have e2 : resV ts source target (pfindings ts source target) = pfindings ts source target := by unfold resV; rw [if_pos hv, if_neg (by omega)]
    rw [e1, e2]
    exact check_second ts source target ad n c w wr _ _ _ _ _ _ _ _ _ _ _ _ _ _ _ _ _ _ _ _ _ _ _ _ _ _ _ _ _ _ _ _ _ _ _ _ _ _ _ _ _ _ _ _ _ _ _ _ _ _ _ _ _ _ _ _ _ _ _ _ _ _ _ _ _ _ _ _ _ _ _ _ _ _ ht hn hz h1 h2 htw hb (fun ad' c' w' g1 g2 => ⟨ad', c', rfl, g1, g2⟩)
end Go.Proofs.Ytkodnagneblgaaa
