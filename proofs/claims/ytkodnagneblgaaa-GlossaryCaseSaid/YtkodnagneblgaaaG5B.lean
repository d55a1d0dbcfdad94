/- Pairs of numbers compared. -/
import Derived.Test.YtkodnagneblgaaaG5
import Derived.DeepKeys
namespace Go.Proofs.Ytkodnagneblgaaa
open Go.RowKit Go.Maps Go.Sort
abbrev W6 (x : Int) : Prop := (Lit.int IntKind.i64 x).wf = true
theorem wf_nat {a : Nat} (h : a ≤ 9000000000) : W6 (a : Int) := WalkArith.wf_i64 (by omega)
theorem eq_two {t : TypeId} (hk : Try.prog.keyTypeAt 2 t = true) (hf : ∀ x y : Int, (Value.agg #[.int .i64 x, .int .i64 y]).formed Try.prog t = true) (hl : ∀ x y : Int, W6 x → W6 y → Try.prog.keyLits 2 t [.int .i64 x, .int .i64 y] = some [.int .i64 x, .int .i64 y]) (x y x' y' : Int) (w : World)
    (h1 : W6 x) (h2 : W6 y) (h3 : W6 x') (h4 : W6 y') :
    (Op.equalIn 10000 t (.agg #[.int .i64 x, .int .i64 y]) (.agg #[.int .i64 x', .int .i64 y'])).run Try.prog w = .ok (decide (x = x' ∧ y = y')) w := by
  obtain ⟨r, h1, h2⟩ := run_equalIn_deep 9998 2 t hk w 2 2 (.agg #[.int .i64 x, .int .i64 y]) (.agg #[.int .i64 x', .int .i64 y']) _ _ (hf x y) (hf x' y') (hl x y h1 h2) (hl x' y' h3 h4)
  have : r = decide (x = x' ∧ y = y') := by
    rw [Bool.eq_iff_iff, h2]
    simp
  rw [← this]
  exact h1
theorem cellsIntG : Try.prog.cellsOf 3 = 1 := by kernel_rfl
theorem cellsFnR : Try.prog.cellsOf 63 = 2 := by kernel_rfl
theorem range2 : List.range 2 = [0, 1] := rfl
theorem eq_pair (x y x' y' : Int) (w : World) (h1 : W6 x) (h2 : W6 y) (h3 : W6 x') (h4 : W6 y') : (Op.equalIn 10000 45 (.agg #[.int .i64 x, .int .i64 y]) (.agg #[.int .i64 x', .int .i64 y'])).run Try.prog w = .ok (decide (x = x' ∧ y = y')) w :=
  eq_two (by kernel_rfl) (fun x y => by simp [Value.formed, Try.underlying45, cellsPair]) (fun x y h1 h2 => by unfold W6 at h1 h2; simp [Program.keyLits, Try.underlying45, Try.underlying3, cellsPair, cellsIntG, range2, h1, h2]) x y x' y' w h1 h2 h3 h4
theorem eq_fn (x y x' y' : Int) (w : World) (h1 : W6 x) (h2 : W6 y) (h3 : W6 x') (h4 : W6 y') : (Op.equalIn 10000 63 (.agg #[.int .i64 x, .int .i64 y]) (.agg #[.int .i64 x', .int .i64 y'])).run Try.prog w = .ok (decide (x = x' ∧ y = y')) w :=
  eq_two (by kernel_rfl) (fun x y => by simp [Value.formed, Try.underlying63, cellsFnR]) (fun x y h1 h2 => by unfold W6 at h1 h2; simp [Program.keyLits, Try.underlying63, Try.underlying3, cellsFnR, cellsIntG, h1, h2]) x y x' y' w h1 h2 h3 h4
end Go.Proofs.Ytkodnagneblgaaa
