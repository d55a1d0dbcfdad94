/- How an argument that is a slice of tokens is read; the laid tables in any row. -/
import Derived.Test.YtpionddponmdmaaGreatDoorQ02
import Derived.Test.YtpionddponmdmaaGreatDoorQ35
import Derived.Test.YtpionddponmdmaaGreatDoorQ26
import Derived.Test.YtpionddponmdmaaGreatDoorRows
import Derived.Lib.LaidTab
import Derived.Shelf.Vars
namespace Go.Proofs.YtpionddponmdmaaGreatDoor
open Go.ChangeShapes Go.WideShapes Go.RowKit
section
variable {H : Type} {enc : TypeId × Value → H} {w : World} {base : Nat} {spare : Nat → Bool} {held : Bool}
theorem tz_cells {v : Value} (h : Rz enc w base spare held 22 [v]) : ∃ ad n c xs b off, v = .slice ad n c ∧ TzAt w ad n xs b off ∧ (∀ x ∈ xs, x.2.1.length ≤ 140737488351232) := by
  obtain ⟨ad, n, c, f, b, off, hv, hr, hc, hz, he⟩ := rz_rows Tryz.underlying22 (k := 3) cellsRt (by omega) h
  have each : ∀ i, i < n → ∃ x : Tz, f i 0 = .int .i64 x.1 ∧ f i 1 = .string (bs x.2.1) ∧ f i 2 = .int .i64 x.2.2 ∧ x.2.1.length ≤ 140737488351232 := fun i hi => by
    obtain ⟨z, e0, _, _⟩ := rz_int (enc := enc) (w := w) (base := base) (spare := spare) (held := held) (v := f i 0) (by
      have this : Rz enc w base spare held 3 ((((List.range 3).map (f i)).drop 0).take (Tryz.prog.cellsOf 3)) := (rz_field Tryz.underlying39 (he i hi) 0 _ rfl).2
      rw [show Tryz.prog.cellsOf 3 = 1 by kernel_rfl] at this
      exact this)
    obtain ⟨s, e1, hs⟩ := rz_string (enc := enc) (w := w) (base := base) (spare := spare) (held := held) (v := f i 1) (by
      have this : Rz enc w base spare held 9 ((((List.range 3).map (f i)).drop 1).take (Tryz.prog.cellsOf 9)) := (rz_field Tryz.underlying39 (he i hi) 1 _ rfl).2
      rw [cStr'] at this
      exact this)
    obtain ⟨y, e2, _, _⟩ := rz_int (enc := enc) (w := w) (base := base) (spare := spare) (held := held) (v := f i 2) (by
      have this : Rz enc w base spare held 3 ((((List.range 3).map (f i)).drop 2).take (Tryz.prog.cellsOf 3)) := (rz_field Tryz.underlying39 (he i hi) 2 _ rfl).2
      rw [show Tryz.prog.cellsOf 3 = 1 by kernel_rfl] at this
      exact this)
    exact ⟨(z, s.data.toList, y), e0, by rw [e1]; rfl, e2, by unfold reachBytes at hs; rw [ba_len]; exact hs⟩
  obtain ⟨q, hq⟩ := Go.Deep.choose_lt each
  have hgd : ∀ i, i < n → ((List.range n).map q).getD i tz0 = q i := fun i hi => by simp [List.getD, hi]
  rw [show Tryz.prog.bytesOf 39 = 32 by kernel_rfl, show reachBytes = 140737488351232 from rfl] at hz
  refine ⟨ad, n, c, (List.range n).map q, b, off, hv, ⟨by simp, by omega, hr.adr, fun i hi => ?_, fun i hi => ?_, fun i hi => ?_⟩, fun x hx => ?_⟩
  · have := hr.cell i 0 hi (by omega)
    rw [Nat.add_zero, (hq i hi).1] at this
    rw [this, hgd i hi]
  · have := hr.cell i 1 hi (by omega)
    rw [(hq i hi).2.1] at this
    rw [this, hgd i hi]
  · have := hr.cell i 2 hi (by omega)
    rw [(hq i hi).2.2.1] at this
    rw [this, hgd i hi]
  · obtain ⟨i, hi, rfl⟩ := List.mem_map.1 hx
    exact (hq i (List.mem_range.1 hi)).2.2.2
end
theorem tabU_mem {W : World} {laid : List (String × DataW Unit)} (hall : (laid.all fun x => x.2.handleName?.isNone) = true) (hA : ("unicode/utf8.acceptRanges", Rows.laid_unicode_utf8_acceptRanges) ∈ laid) (hF : ("unicode/utf8.first", Rows.laid_unicode_utf8_first) ∈ laid)
    (h : laidMetH Tryz.prog laid W) : TabU W := by
  rw [MakeChecks.laidMetH_plain _ _ _ hall] at h
  have h2 := Lib.laidMet.reads h hA
  have h1 := Lib.laidMet.reads h hF
  rw [first_data] at h1
  rw [accept_data] at h2
  exact utf8Tabs_of_readsT (U8Types.of196 Tryz.lays196) u8extra h1 h2
end Go.Proofs.YtpionddponmdmaaGreatDoor
/- Plain: what a row of Text's laid variables say: the table of deBruijn64tab, the powers of ten; bytealg.MaxLen holds a number. -/
namespace Go.Proofs.YtpionddponmdmaaGreatDoor
open Go.RowKit
theorem laid_tail {P : Program} {W : World} {x : String × DataW Unit} {rest : List (String × DataW Unit)} {ps} (h : DataW.LaidVars P W (x :: rest) ps) : ∃ q, DataW.LaidVars P W rest q := by
  obtain ⟨_, _, _, _, p, q, _, _, _, _, h1, _⟩ := h
  exact ⟨q, h1⟩
theorem tab_at {P : Program} {W : World} {name : String} {k : IntKind} {zs : List Int} {rest : List (String × DataW Unit)} {g : Nat} {t e : TypeId} {n : Nat} {ps}
    (hg : P.globalNamed name = some g) (hty : (P.globals[g]?).map (·.type) = some t) (ht : P.underlying t = some (.array n e)) (he : P.underlying e = some (.int k)) (hce : P.cellsOf e = 1) (hct : P.cellsOf t = n)
    (h : DataW.LaidVars P W ((name, Lib.tabData k zs) :: rest) ps) : Lib.TabIs P W name k zs := by
  obtain ⟨g', t', cs, fuel, p, q, hg', ht', hvar, hd, _, _⟩ := h
  obtain rfl := Option.some.inj (hg.symm.trans hg')
  obtain rfl := Option.some.inj (hty.symm.trans ht')
  unfold Lib.TabIs
  rw [hvar, ← Lib.cells_of_tab ht he hce hct hd]
theorem pow_data : (Rows.laid_internal_strconv_uint64pow10 : DataW Unit) = Lib.tabData .u64 Lib.pow10Tab := by kernel_rfl
theorem de_data : (Rows.laid_math_bits_deBruijn64tab : DataW Unit) = Lib.tabData .u8 deTab := by kernel_rfl
theorem tabs_of {W : World} {rest : List (String × DataW Unit)} {x : String × DataW Unit} (hall : ((x :: ("math/bits.deBruijn64tab", Rows.laid_math_bits_deBruijn64tab) :: ("internal/strconv.uint64pow10", Rows.laid_internal_strconv_uint64pow10) :: rest).all fun x => x.2.handleName?.isNone) = true)
    (h : laidMetH Tryz.prog (x :: ("math/bits.deBruijn64tab", Rows.laid_math_bits_deBruijn64tab) :: ("internal/strconv.uint64pow10", Rows.laid_internal_strconv_uint64pow10) :: rest) W) : TabDeB W ∧ TabTen W := by
  rw [MakeChecks.laidMetH_plain _ _ _ hall] at h
  obtain ⟨ps, h1, _⟩ := h
  obtain ⟨q1, h2⟩ := laid_tail h1
  obtain ⟨q2, h3⟩ := laid_tail h2
  rw [de_data] at h2
  rw [pow_data] at h3
  exact ⟨Lib.tabBelow_of_tabIs (tab_at (g := (Tryz.prog.globalNamed "math/bits.deBruijn64tab").getD 0) (t := ((Tryz.prog.globals[(Tryz.prog.globalNamed "math/bits.deBruijn64tab").getD 0]?).map (·.type)).getD 0) (n := 64) (e := 5) (by kernel_rfl) (by kernel_rfl) (by kernel_rfl) Tryz.underlying5 (by kernel_rfl) (by kernel_rfl) h2),
    Lib.tabBelow_of_tabIs (tab_at (g := (Tryz.prog.globalNamed "internal/strconv.uint64pow10").getD 0) (t := ((Tryz.prog.globals[(Tryz.prog.globalNamed "internal/strconv.uint64pow10").getD 0]?).map (·.type)).getD 0) (n := 20) (e := 109) (by kernel_rfl) (by kernel_rfl) (by kernel_rfl) Tryz.underlying109 (by kernel_rfl) (by kernel_rfl) h3)⟩
theorem maxLen_of {W : World} (h : W.ShapedOpen Tryz.prog) : MaxLen W :=
  cell_of_shapedOpen_int (g := 4) (t := 3) (k := .i64) (zero := #[.int .i64 0]) h (by decide +kernel) (by kernel_rfl) rfl (by kernel_rfl) (by kernel_rfl) Tryz.underlying3
end Go.Proofs.YtpionddponmdmaaGreatDoor
