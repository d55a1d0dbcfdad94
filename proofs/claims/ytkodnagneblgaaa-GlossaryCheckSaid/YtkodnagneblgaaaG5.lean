/- Walks: the example of the document. -/
import Derived.Test.YtkodnagneblgaaaG4
namespace Go.Proofs.Ytkodnagneblgaaa
open Go.RowKit Go.Maps Go.Sort
attribute [local go_sem] Ext.cell Ext.frozen
attribute [local go_sem ↓] Go.wp_at_zero Go.wp_at_succ
def ts0 : List Tm := [⟨⟨#[102, 105, 108, 101]⟩, ⟨#[68, 97, 116, 101, 105]⟩, false⟩, ⟨⟨#[102, 105, 108, 101, 32, 110, 97, 109, 101]⟩, ⟨#[68, 97, 116, 101, 105, 110, 97, 109, 101]⟩, false⟩]
def src0 : ByteArray := ⟨#[84, 104, 101, 32, 102, 105, 108, 101, 32, 110, 97, 109, 101, 32, 111, 102, 32, 97, 32, 102, 105, 108, 101]⟩
def tgt0 : ByteArray := ⟨#[68, 101, 114, 32, 78, 97, 109, 101, 32, 100, 101, 114, 32, 68, 97, 116, 101, 105]⟩
theorem err0 : errV ts0 src0 tgt0 = 0 := by kernel_rfl
theorem res0 : resV ts0 src0 tgt0 (pfindings ts0 src0 tgt0) = [(1, 1)] := by kernel_rfl
theorem cellsFnP : Try.prog.cellsOf 51 = 2 := by kernel_rfl
theorem ts0_small : ∀ x ∈ ts0, x.s.size ≤ 100000 ∧ x.t.size ≤ 100000 := by decide
set_option maxRecDepth 100000 in
set_option maxHeartbeats 4000000 in
theorem awake_any (w : World) : Calls Try.prog 8 #[] w fun e w' => e = .returned (.bool true) ∧ Below w.heap.size w w' := by
  have HC := Lib.hid (fun ad n c W (h : TmAt W ad n ts0) hn => pcheck_any ts0 src0 tgt0 ad n c W h hn ts0_small)
  rw [err0, res0] at HC
  go_enter Try.func8, Try.ntmps8
  go_upto_region 1 with (fail)
  go_wp2_with fail
  refine (HC.out _ 2 2 _ ?_ (by omega)).mono ?_
  · refine ⟨rfl, w.heap.size, 0, by omega, fun _ => rfl, fun i j hi hj => ?_⟩
    rcases (by omega : i = 0 ∨ i = 1) with e | e <;> rcases (by omega : j = 0 ∨ j = 1 ∨ j = 2) with e' | e' | e' <;> subst e <;> subst e' <;> (rw [Lib.cell_of_heap (heap_alloc_new w _)]; rfl)
  · rintro e w2 ⟨ad', c', rfl, hfn, hb⟩
    have HB : Hid (Below w.heap.size w w2) := by
      refine Below.trans ((Below.refl w.heap.size w).alloc (Nat.le_refl _) _) (hb.mono ?_)
      simp
    have hfl : prV [(1, 1)] = flat 2 (fun _ _ => .int .i64 1) 1 := rfl
    unfold FnR at hfn
    rw [show [((1 : Nat), (1 : Nat))].length = 1 from rfl, hfl] at hfn
    obtain ⟨b, hr, _⟩ := own_rw hfn
    have hix := fun W => hr.ix 25 51 Try.underlying25 cellsFnP (by omega) (show 0 < 1 by omega) c' W
    have h0 := hr.cell 0 0 (by omega) (by omega)
    have h1 := hr.cell 0 1 (by omega) (by omega)
    have hle : ([((1 : Nat), (1 : Nat))]).length = 1 := rfl
    rw [hle]
    have hix0 : ∀ W, (Instr.indexAt 25 (.slice ad' 1 c') (.int .i64 0)).run Try.prog W = .ok (.pointer (some ⟨b, 0, none⟩)) W := fun W => by simpa using hix W
    have k0 : w2.cell? ⟨b, 0, none⟩ = some (.int .i64 1) := by simpa using h0
    have k1 : w2.cell? ⟨b, 1, none⟩ = some (.int .i64 1) := by simpa using h1
    clear hfn hb hr hfl hle hix h0 h1
    go_wp2_with fail
    go_ret
    exact ⟨rfl, HB.out⟩
end Go.Proofs.Ytkodnagneblgaaa
