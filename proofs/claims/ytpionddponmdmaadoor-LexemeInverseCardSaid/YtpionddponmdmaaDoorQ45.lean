/- Plain: what a row of Text's laid variables say: the table of deBruijn64tab, the powers of ten; bytealg.MaxLen holds a number. -/
import Derived.Test.YtpionddponmdmaaDoorQ25
import Derived.Test.YtpionddponmdmaaDoorRows
import Derived.Lib.LaidTab
import Derived.Shelf.Vars
namespace Go.Proofs.YtpionddponmdmaaDoor
open Go.RowKit
theorem laid_tail {P : Program} {W : World} {x : String × DataW Unit} {rest : List (String × DataW Unit)} {ps} (h : DataW.LaidVars P W (x :: rest) ps) : ∃ q, DataW.LaidVars P W rest q := by
  obtain ⟨_, _, _, _, p, q, _, _, _, _, h1, _⟩ := h
  exact ⟨q, h1⟩
theorem tab_at {P : Program} {W : World} {name : String} {k : IntKind} {zs : List Int} {rest : List (String × DataW Unit)} {g : Nat} {t e : TypeId} {n : Nat} {ps}
    (hg : P.globalNamed name = some g) (hty : (P.globals[g]?).map (·.type) = some t) (ht : P.underlying t = some (.array n e)) (he : P.underlying e = some (.int k)) (hce : P.cellsOf e = 1) (hct : P.cellsOf t = n)
    (h : DataW.LaidVars P W ((name, Lib.tabData k zs) :: rest) ps) : Lib.TabIs P W name k zs := by
  obtain ⟨g', t', cs, fuel, p, q, hg', ht', hvar, hd, _, _⟩ := h
  obtain rfl := Option.some.inj (hg.symm.trans hg')
  obtain rfl := Option.some.inj (hty.symm.trans ht')
  unfold Lib.TabIs
  rw [hvar, ← Lib.cells_of_tab ht he hce hct hd]
theorem pow_data : (Rows.laid_internal_strconv_uint64pow10 : DataW Unit) = Lib.tabData .u64 Lib.pow10Tab := by kernel_rfl
theorem de_data : (Rows.laid_math_bits_deBruijn64tab : DataW Unit) = Lib.tabData .u8 deTab := by kernel_rfl
theorem tabs_of {W : World} {rest : List (String × DataW Unit)} {x : String × DataW Unit} (hall : ((x :: ("math/bits.deBruijn64tab", Rows.laid_math_bits_deBruijn64tab) :: ("internal/strconv.uint64pow10", Rows.laid_internal_strconv_uint64pow10) :: rest).all fun x => x.2.handleName?.isNone) = true)
    (h : laidMetH Tryd.prog (x :: ("math/bits.deBruijn64tab", Rows.laid_math_bits_deBruijn64tab) :: ("internal/strconv.uint64pow10", Rows.laid_internal_strconv_uint64pow10) :: rest) W) : TabDeB W ∧ TabTen W := by
  rw [MakeChecks.laidMetH_plain _ _ _ hall] at h
  obtain ⟨ps, h1, _⟩ := h
  obtain ⟨q1, h2⟩ := laid_tail h1
  obtain ⟨q2, h3⟩ := laid_tail h2
  rw [de_data] at h2
  rw [pow_data] at h3
  exact ⟨Lib.tabBelow_of_tabIs (tab_at (g := (Tryd.prog.globalNamed "math/bits.deBruijn64tab").getD 0) (t := ((Tryd.prog.globals[(Tryd.prog.globalNamed "math/bits.deBruijn64tab").getD 0]?).map (·.type)).getD 0) (n := 64) (e := 5) (by kernel_rfl) (by kernel_rfl) (by kernel_rfl) Tryd.underlying5 (by kernel_rfl) (by kernel_rfl) h2),
    Lib.tabBelow_of_tabIs (tab_at (g := (Tryd.prog.globalNamed "internal/strconv.uint64pow10").getD 0) (t := ((Tryd.prog.globals[(Tryd.prog.globalNamed "internal/strconv.uint64pow10").getD 0]?).map (·.type)).getD 0) (n := 20) (e := 114) (by kernel_rfl) (by kernel_rfl) (by kernel_rfl) Tryd.underlying114 (by kernel_rfl) (by kernel_rfl) h3)⟩
theorem maxLen_of {W : World} (h : W.ShapedOpen Tryd.prog) : MaxLen W :=
  cell_of_shapedOpen_int (g := 2) (t := 3) (k := .i64) (zero := #[.int .i64 0]) h (by decide +kernel) (by kernel_rfl) rfl (by kernel_rfl) (by kernel_rfl) Tryd.underlying3
end Go.Proofs.YtpionddponmdmaaDoor
