/- Terms in memory; a set of pairs of strings; counts of strings. -/
import Derived.Test.YtkodnagneblgaaaE1
import Derived.DeepKeys4
import Derived.WideKeyPair
namespace Go.Proofs.Ytkodnagneblgaaa
open Go.RowKit Go.Maps Go.Sort
/-- a term -/
structure Tm where
  s : ByteArray
  t : ByteArray
  f : Bool
deriving Inhabited
def tm0 : Tm := ⟨.empty, .empty, false⟩
/-- the cells of terms -/
def tmC (ts : List Tm) (i j : Nat) : Value := match j with
  | 0 => .string (ts.getD i tm0).s
  | 1 => .string (ts.getD i tm0).t
  | _ => .bool (ts.getD i tm0).f
/-- a slice of terms -/
def TmAt (w : World) (ad : Option Addr) (n : Nat) (ts : List Tm) : Prop := ts.length = n ∧ ∃ b off, Rw w ad n 3 (tmC ts) b off
theorem TmAt.below {w w' : World} {ad : Option Addr} {n : Nat} {ts : List Tm} (h : TmAt w ad n ts) (hb : Below w.heap.size w w') : TmAt w' ad n ts := by
  obtain ⟨h1, b, off, h2⟩ := h
  exact ⟨h1, b, off, h2.below hb⟩
theorem tmC_snoc (ts : List Tm) (x : Tm) (i j : Nat) (h : i < ts.length) : tmC (ts ++ [x]) i j = tmC ts i j := by
  unfold tmC
  rw [getD_snoc_lt _ _ _ _ h]
theorem infoTm : (Try.prog.info? 53).map (fun i => (i.zero, i.size, i.bytes)) = some (some (.agg #[.string .empty, .string .empty, .bool false]), 3, 40) := by kernel_rfl
theorem cellsTm : Try.prog.cellsOf 53 = 3 := by kernel_rfl
theorem cellsRTm : Try.prog.cellsOf 48 = 3 := by kernel_rfl
/-- pairs of strings as keys -/
theorem cellsPairS : Try.prog.cellsOf 65 = 2 := by kernel_rfl
theorem arrPair : WideMaps.ArrKey Try.prog 65 9 2 := ⟨Try.underlying65, by kernel_rfl, by kernel_rfl, cellsPairS⟩
theorem laidOutG : laidOutB Try.prog = true := by kernel_rfl
theorem lawPair : Keyed Try.prog 65 := Keyed.of_law (deep_law_laid laidOutG (m := 2) (by omega) (of_decide_eq_true (by kernel_rfl)) (by kernel_rfl) (by rw [Try.underlying65]))
theorem typesSize : ∃ m, Try.prog.types.size = m + 1 := ⟨117, by kernel_rfl⟩
theorem keyPair {a b : ByteArray} (ha : a.size ≤ maxLen) (hb : b.size ≤ maxLen) : keyOf Try.prog 65 (.agg #[.string a, .string b]) = some (.string (keyBytes [.string a.data.toList, .string b.data.toList])) := by
  have hkt := arrPair.keyType typesSize
  obtain ⟨m, hm⟩ := typesSize
  unfold keyOf
  simp only [arrPair.hu]
  rw [if_pos (by simp [hkt, Value.formed, arrPair.hu, arrPair.size]), hm]
  unfold Program.keyLits
  simp only [arrPair.hu, Value.cells]
  rw [if_pos (by rw [arrPair.size]; rfl), show List.range 2 = [0, 1] from rfl, List.mapM_cons, List.mapM_cons, List.mapM_nil]
  simp [arrPair.one, Program.keyLits, Try.underlying9, ha, hb]
end Go.Proofs.Ytkodnagneblgaaa
