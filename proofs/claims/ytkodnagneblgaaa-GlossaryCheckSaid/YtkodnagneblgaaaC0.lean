/- Small laws: appends, conversions, rows of different types lie apart. -/
import Derived.Test.YtkodnagneblgaaaA1
import Derived.Test.YtkodnagneblgaaaP1
import Derived.Test.YtkodnagneblgaaaR
import Derived.Test.YtkodnagneblgaaaUA
import Derived.Deep.DrawnRows
import Derived.Deep.CutBlock
import Derived.Deep.DeepCutAuto
import Derived.Maps.Own
import Derived.Maps.OwnOps
import Derived.Maps.Views
namespace Go.Proofs.Ytkodnagneblgaaa
open Go.RowKit

theorem infoStr : (Try.prog.info? 9).map (fun i => (i.zero, i.size, i.bytes)) = some (some (.string .empty), 1, 16) := by kernel_rfl
theorem infoU8 : (Try.prog.info? 5).map (fun i => (i.zero, i.size, i.bytes)) = some (some (.int .u8 0), 1, 1) := by kernel_rfl
theorem infoInt : (Try.prog.info? 3).map (fun i => (i.zero, i.size, i.bytes)) = some (some (.int .i64 0), 1, 8) := by kernel_rfl
theorem infoStrs : (Try.prog.info? 39).map (fun i => (i.zero, i.size, i.bytes)) = some (some (.slice none 0 0), 1, 24) := by kernel_rfl
theorem cellsStr : Try.prog.cellsOf 9 = 1 := by kernel_rfl
theorem cellsStrs : Try.prog.cellsOf 39 = 1 := by kernel_rfl
theorem cellsInt : Try.prog.cellsOf 3 = 1 := by kernel_rfl
theorem strs_snoc (l : List ByteArray) (x : ByteArray) : strs (l ++ [x]) = strs l ++ [.string x] := by simp [strs]
theorem byteCells_one1 (l : List UInt8) (c : UInt8) : Lib.byteCells (l ++ [c]) = Lib.byteCells l ++ [.int .u8 (c.toNat : Int)] := by simp [Lib.byteCells]
section
variable {ops : Array Oper} {rest : List Oper} {o : Oper} {a : Act} {Q : Exit → Act → World → Prop} {w : World}
theorem appStr (hgd : o.guard = none) (s x : Operand) (ho : o.op = .call { callee := .builtin .append, args := #[s, x], argTypes := #[39, 39] })
    (base : Nat) (ad : Option Addr) (n c : Nat) (xs : List Value) (hs : a.eval s = .slice ad n c) (hown : w.ownsRow base 9 1 (.slice ad n c) n xs)
    (y : Value) (E' : TypeId) (hx : a.eval x = .slice (some ⟨w.heap.size, 0, none⟩) 1 1) (hy : y.oneCell' = true)
    (h63 : n + 1 ≤ maxLen) (hbytes : (n + 1) * 16 ≤ 140737488355328) (hbase : base ≤ w.heap.size)
    (h : ∀ ad' c' w', w'.ownsRow base 9 1 (.slice ad' (n + 1) c') (n + 1) (xs ++ [y]) → Below base w w' → w.grownBy w' (Value.ownBlock (.slice ad n c)) → w.heap.size < w'.heap.size →
      wpList Try.prog ops Q rest (a.put o.dst (.slice ad' (n + 1) c')) w') : wpList Try.prog ops Q (o :: rest) a (w.alloc (.cells #[y] E')) := by
  obtain ⟨i0, hi, hz0, hz1, hz2⟩ := info_parts infoStr
  exact wpList_app 39 9 16 Try.underlying39 i0 _ hi hz0 hz1 hz2 rfl hgd s x ho base ad n c xs hs hown y E' hx hy h63 hbytes hbase h
theorem appU8 (hgd : o.guard = none) (s x : Operand) (ho : o.op = .call { callee := .builtin .append, args := #[s, x], argTypes := #[67, 67] })
    (base : Nat) (ad : Option Addr) (n c : Nat) (xs : List Value) (hs : a.eval s = .slice ad n c) (hown : w.ownsRow base 5 1 (.slice ad n c) n xs)
    (y : Value) (E' : TypeId) (hx : a.eval x = .slice (some ⟨w.heap.size, 0, none⟩) 1 1) (hy : y.oneCell' = true)
    (h63 : n + 1 ≤ maxLen) (hbytes : (n + 1) * 1 ≤ 140737488355328) (hbase : base ≤ w.heap.size)
    (h : ∀ ad' c' w', w'.ownsRow base 5 1 (.slice ad' (n + 1) c') (n + 1) (xs ++ [y]) → Below base w w' → w.grownBy w' (Value.ownBlock (.slice ad n c)) → w.heap.size < w'.heap.size →
      wpList Try.prog ops Q rest (a.put o.dst (.slice ad' (n + 1) c')) w') : wpList Try.prog ops Q (o :: rest) a (w.alloc (.cells #[y] E')) := by
  obtain ⟨i0, hi, hz0, hz1, hz2⟩ := info_parts infoU8
  exact wpList_app 67 5 1 Try.underlying67 i0 _ hi hz0 hz1 hz2 rfl hgd s x ho base ad n c xs hs hown y E' hx hy h63 hbytes hbase h
theorem appStrs (hgd : o.guard = none) (s x : Operand) (ho : o.op = .call { callee := .builtin .append, args := #[s, x], argTypes := #[74, 74] })
    (base : Nat) (ad : Option Addr) (n c : Nat) (xs : List Value) (hs : a.eval s = .slice ad n c) (hown : w.ownsRow base 39 1 (.slice ad n c) n xs)
    (y : Value) (E' : TypeId) (hx : a.eval x = .slice (some ⟨w.heap.size, 0, none⟩) 1 1) (hy : y.oneCell' = true)
    (h63 : n + 1 ≤ maxLen) (hbytes : (n + 1) * 24 ≤ 140737488355328) (hbase : base ≤ w.heap.size)
    (h : ∀ ad' c' w', w'.ownsRow base 39 1 (.slice ad' (n + 1) c') (n + 1) (xs ++ [y]) → Below base w w' → w.grownBy w' (Value.ownBlock (.slice ad n c)) → w.heap.size < w'.heap.size →
      wpList Try.prog ops Q rest (a.put o.dst (.slice ad' (n + 1) c')) w') : wpList Try.prog ops Q (o :: rest) a (w.alloc (.cells #[y] E')) := by
  obtain ⟨i0, hi, hz0, hz1, hz2⟩ := info_parts infoStrs
  exact wpList_app 74 39 24 Try.underlying74 i0 _ hi hz0 hz1 hz2 rfl hgd s x ho base ad n c xs hs hown y E' hx hy h63 hbytes hbase h
end
theorem conv_own {w : World} {base n c : Nat} {ad : Option Addr} {l : List UInt8} (h : w.ownsRow base 5 1 (.slice ad n c) n (Lib.byteCells l)) :
    (convert 67 9 (.slice ad n c)).run Try.prog w = .ok (.string (bs l)) w := by
  have hl : l.length = n := by have := h.1; rw [Lib.byteCells_length] at this; omega
  obtain ⟨b, off, hs⟩ := Own.sl h
  rcases h.2 with ⟨h1, h2⟩ | ⟨g, cap, cur, h1, _⟩
  · obtain ⟨e1, -, e3⟩ := Value.slice.inj h1
    subst e1 e3
    subst h2
    obtain rfl := List.eq_nil_of_length_eq_zero hl
    rw [run_convert_bytes_string _ 67 9 5 _ _ _ Try.underlying67 Try.underlying5 Try.underlying9]
    rfl
  · obtain ⟨e1, -, e3⟩ := Value.slice.inj h1
    subst e1
    subst hl
    refine run_convert_bytes_back _ 67 9 5 ⟨g, 0, none⟩ c l Try.underlying67 Try.underlying5 Try.underlying9 ?_
    intro j hj
    have ha := hs.adr (by omega)
    injection ha with ha
    injection ha with ha1 ha2
    subst ha1 ha2
    have := hs.cell j hj
    rw [show (⟨g, 0, none⟩ : Addr).add j = ⟨g, 0 + j, none⟩ by (simp [Addr.add]; exact fun e => e.symm), this]
    simp [Lib.byteCells, List.getD, List.getElem?_eq_getElem hj]
/-- rows of different types lie apart -/
theorem own_apart {w : World} {b1 b2 : Nat} {E1 E2 : TypeId} {s1 s2 : Nat} {v1 v2 : Value} {n1 n2 : Nat} {x1 x2 : List Value} (h1 : w.ownsRow b1 E1 s1 v1 n1 x1) (h2 : w.ownsRow b2 E2 s2 v2 n2 x2) (hE : E1 ≠ E2) :
    v1.ownBlock = none ∨ v1.ownBlock ≠ v2.ownBlock := by
  rcases h1.2 with ⟨rfl, _⟩ | ⟨g, cap, cur, rfl, _, h3, _⟩
  · exact .inl rfl
  · refine .inr (fun e => ?_)
    rcases h2.2 with ⟨rfl, _⟩ | ⟨g', cap', cur', rfl, _, h3', _⟩
    · cases e
    · injection e with e
      have e : g = g' := e
      subst e
      rw [h3] at h3'
      injection h3' with h3'
      injection h3' with _ h4
      exact hE h4
/-- a row stays while a row of another type grows -/
theorem own_other {w w' : World} {b1 b2 : Nat} {E1 E2 : TypeId} {s1 s2 : Nat} {v1 v2 : Value} {n1 n2 : Nat} {x1 x2 : List Value} (h1 : w.ownsRow b1 E1 s1 v1 n1 x1) (h2 : w.ownsRow b2 E2 s2 v2 n2 x2) (hE : E1 ≠ E2) (hg : w.grownBy w' v2.ownBlock) :
    w'.ownsRow b1 E1 s1 v1 n1 x1 := h1.kept hg (own_apart h1 h2 hE)
/-- another row of the same type, at another block -/
theorem own_kept {w w' : World} {b1 : Nat} {E1 : TypeId} {s1 : Nat} {v1 v2 : Value} {n1 : Nat} {x1 : List Value} (h1 : w.ownsRow b1 E1 s1 v1 n1 x1) (hE : v1.ownBlock = none ∨ v1.ownBlock ≠ v2.ownBlock) (hg : w.grownBy w' v2.ownBlock) :
    w'.ownsRow b1 E1 s1 v1 n1 x1 := h1.kept hg hE
end Go.Proofs.Ytkodnagneblgaaa
