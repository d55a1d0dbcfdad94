/- How an argument that is a document, or a layout, is read. -/
import Derived.Test.YtkkggpahanddnaaDoorHO
import Derived.Test.YtkkggpahanddnaaDoorH5
namespace Go.Proofs.YtkkggpahanddnaaDoor
open Go.ChangeShapes Go.WideShapes Go.RowKit
section
variable {H : Type} {enc : TypeId × Value → H} {w : World} {base : Nat} {spare : Nat → Bool} {held : Bool}
theorem rz_strs {v : Value} (h : Rz enc w base spare held 22 [v]) : ∃ ad n c xs, v = .slice ad n c ∧ Sl w ad n (strs xs) ∧ (ad = none → c = 0) ∧ n * 16 ≤ 140737488351232 := by
  obtain ⟨ad, n, c, f, b, off, hv, hr, hc, hz, he⟩ := rz_rows Tryd.underlying22 cStr' (by omega) h
  have each : ∀ i, i < n → ∃ s, f i 0 = .string s := fun i hi => by
    obtain ⟨s, hs, _⟩ := rz_string (he i hi)
    exact ⟨s, hs⟩
  obtain ⟨g, hg⟩ := Go.Deep.choose_lt each
  rw [show Tryd.prog.bytesOf 9 = 16 by kernel_rfl, show reachBytes = 140737488351232 from rfl] at hz
  refine ⟨ad, n, c, (List.range n).map g, hv, ⟨b, off, ⟨by simp [strs], hr.max, hr.adr, fun i hi => ?_⟩⟩, hc, hz⟩
  have := hr.cell i 0 hi (by omega)
  rw [Nat.mul_one, Nat.add_zero, hg i hi] at this
  rw [this, strs_getD _ _ (by simpa using hi)]
  simp [List.getD, hi]
/-- a document of the reference -/
theorem doc_cells {cs : List Value} (h : Rz enc w base spare held 24 cs) :
    ∃ hd tl ad n c xs, cs = [.string hd, .slice ad n c, .string tl] ∧ Sl w ad n (strs xs) ∧ (ad = none → c = 0) ∧ n * 16 ≤ 140737488351232 := by
  have hl : cs.length = 3 := (rz_field Tryd.underlying24 h 0 _ rfl).1.trans (by kernel_rfl)
  match cs, hl with
  | [x0, x1, x2], _ =>
    obtain ⟨s0, rfl, _⟩ := rz_string (enc := enc) (w := w) (base := base) (spare := spare) (held := held) (v := x0) (by
      have this : Rz enc w base spare held 9 ((([x0, x1, x2] : List Value).drop 0).take (Tryd.prog.cellsOf 9)) := (rz_field Tryd.underlying24 h 0 _ rfl).2
      rw [cStr'] at this
      exact this)
    obtain ⟨s2, rfl, _⟩ := rz_string (enc := enc) (w := w) (base := base) (spare := spare) (held := held) (v := x2) (by
      have this : Rz enc w base spare held 9 ((([.string s0, x1, x2] : List Value).drop 2).take (Tryd.prog.cellsOf 9)) := (rz_field Tryd.underlying24 h 2 _ rfl).2
      rw [cStr'] at this
      exact this)
    obtain ⟨ad, n, c, xs, rfl, h1, h2, h3⟩ := rz_strs (enc := enc) (w := w) (base := base) (spare := spare) (held := held) (v := x1) (by
      have this : Rz enc w base spare held 22 ((([.string s0, x1, .string s2] : List Value).drop 1).take (Tryd.prog.cellsOf 22)) := (rz_field Tryd.underlying24 h 1 _ rfl).2
      rw [show Tryd.prog.cellsOf 22 = 1 by kernel_rfl] at this
      exact this)
    exact ⟨s0, s2, ad, n, c, xs, rfl, h1, h2, h3⟩
/-- a layout of the reference -/
theorem pcs_cells {v : Value} (h : Rz enc w base spare held 33 [v]) : ∃ ad n c ps, v = .slice ad n c ∧ Pc w ad n ps ∧ (∀ p ∈ ps, -9223372036854775808 ≤ p.1 ∧ p.1 ≤ 9223372036854775807) := by
  obtain ⟨ad, n, c, f, b, off, hv, hr, hc, hz, he⟩ := rz_rows Tryd.underlying33 (k := 2) cellsRc (by omega) h
  have each : ∀ i, i < n → ∃ p : Int × ByteArray, f i 0 = .int .i64 p.1 ∧ f i 1 = .string p.2 ∧ -9223372036854775808 ≤ p.1 ∧ p.1 ≤ 9223372036854775807 := fun i hi => by
    obtain ⟨z, e0, z1, z2⟩ := rz_int (enc := enc) (w := w) (base := base) (spare := spare) (held := held) (v := f i 0) (by
      have this : Rz enc w base spare held 3 ((((List.range 2).map (f i)).drop 0).take (Tryd.prog.cellsOf 3)) := (rz_field Tryd.underlying58 (he i hi) 0 _ rfl).2
      rw [show Tryd.prog.cellsOf 3 = 1 by kernel_rfl] at this
      exact this)
    obtain ⟨s, e1, _⟩ := rz_string (enc := enc) (w := w) (base := base) (spare := spare) (held := held) (v := f i 1) (by
      have this : Rz enc w base spare held 9 ((((List.range 2).map (f i)).drop 1).take (Tryd.prog.cellsOf 9)) := (rz_field Tryd.underlying58 (he i hi) 1 _ rfl).2
      rw [cStr'] at this
      exact this)
    exact ⟨(z, s), e0, e1, z1, z2⟩
  obtain ⟨q, hq⟩ := Go.Deep.choose_lt each
  have hgd : ∀ i, i < n → ((List.range n).map q).getD i (0, .empty) = q i := fun i hi => by simp [List.getD, hi]
  refine ⟨ad, n, c, (List.range n).map q, hv, ⟨b, off, ⟨by simp, hr.max, hr.adr, fun i hi => ?_, fun i hi => ?_⟩⟩, fun p hp => ?_⟩
  · have := hr.cell i 0 hi (by omega)
    rw [Nat.add_zero, (hq i hi).1] at this
    rw [this, hgd i hi]
  · have := hr.cell i 1 hi (by omega)
    rw [(hq i hi).2.1] at this
    rw [this, hgd i hi]
  · obtain ⟨i, hi, rfl⟩ := List.mem_map.1 hp
    exact (hq i (List.mem_range.1 hi)).2.2
end
end Go.Proofs.YtkkggpahanddnaaDoor
