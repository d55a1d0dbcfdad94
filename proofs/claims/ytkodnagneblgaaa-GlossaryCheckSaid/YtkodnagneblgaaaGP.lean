/- How an argument that is a list of terms is read. -/
import Derived.Test.YtkodnagneblgaaaGO
import Derived.Deep.Slices
import Derived.ChangeArms
namespace Go.Proofs.Ytkodnagneblgaaa
open Go.ChangeShapes Go.WideShapes Go.RowKit
theorem cStrG : Try.prog.cellsOf 9 = 1 := by kernel_rfl
theorem cBoolG : Try.prog.cellsOf 4 = 1 := by kernel_rfl
section
variable {H : Type} {enc : TypeId × Value → H} {w : World} {base : Nat} {spare : Nat → Bool} {held : Bool}
theorem spotG {W : World} {a : Addr} {v : Value} (h : W.cell? (a.add 0) = some v) : a = ⟨a.block, a.off, none⟩ := by
  have hs : a.spot = none := by simpa [Addr.add] using World.cell?_spot h
  cases a
  simp at hs
  simp [hs]
theorem field_of {fuel : Nat} {t : TypeId} {fs : Array Field} {cs : List Value} {x : DataW H × List MemPlace} (ht : Try.prog.underlying t = some (.struct fs)) (h : DataW.trod enc Try.prog w base spare held fuel t cs = some x) (i : Nat) (f : Field) (hi : fs[i]? = some f) :
    ∃ m y, DataW.trod enc Try.prog w base spare held m f.type ((cs.drop f.offset).take (Try.prog.cellsOf f.type)) = some y := by
  obtain ⟨xs, m, _, _, _, hx, hf⟩ := DataW.trod_struct ht h
  have h1 := hf i f hi
  have hlt : i < xs.length := by rw [hx]; exact (Array.getElem?_eq_some_iff.1 hi).1
  rw [List.getElem?_eq_getElem hlt] at h1
  exact ⟨m, _, h1⟩
theorem tm_of {fuel : Nat} {cs : List Value} {x : DataW H × List MemPlace} (h : DataW.trod enc Try.prog w base spare held fuel 48 cs = some x) :
    ∃ y : Tm, cs = [.string y.s, .string y.t, .bool y.f] ∧ y.s.size ≤ 9223372036854775807 ∧ y.t.size ≤ 9223372036854775807 := by
  obtain ⟨_, _, _, _, hl, _, _⟩ := DataW.trod_struct Try.underlying48 h
  rw [cellsRTm] at hl
  match cs, hl with
  | [a, b, c], _ =>
    obtain ⟨_, _, h0⟩ := field_of Try.underlying48 h 0 _ rfl
    obtain ⟨_, _, h1⟩ := field_of Try.underlying48 h 1 _ rfl
    obtain ⟨_, _, h2⟩ := field_of Try.underlying48 h 2 _ rfl
    obtain ⟨s, e0, _, hs⟩ := DataW.trod_string Try.underlying9 h0
    obtain ⟨t, e1, _, ht⟩ := DataW.trod_string Try.underlying9 h1
    obtain ⟨f, e2, _⟩ := DataW.trod_bool Try.underlying4 h2
    replace e0 : List.take (Try.prog.cellsOf 9) (List.drop 0 [a, b, c]) = [.string s] := e0
    replace e1 : List.take (Try.prog.cellsOf 9) (List.drop 1 [a, b, c]) = [.string t] := e1
    replace e2 : List.take (Try.prog.cellsOf 4) (List.drop 2 [a, b, c]) = [.bool f] := e2
    rw [cStrG] at e0 e1
    rw [cBoolG] at e2
    simp only [List.drop_zero, List.drop_succ_cons, List.take_succ_cons, List.take_zero, List.cons.injEq, and_true] at e0 e1 e2
    subst e0 e1 e2
    unfold maxLen at hs ht
    exact ⟨⟨s, t, f⟩, rfl, by omega, by omega⟩
theorem open_tms {fuel : Nat} {v : Value} {x : DataW H × List MemPlace} (h : DataW.trod enc Try.prog w base spare held fuel 22 [v] = some x) :
    ∃ ad n c ts, v = .slice ad n c ∧ TmAt w ad n ts ∧ (∀ x ∈ ts, x.s.size ≤ 9223372036854775807 ∧ x.t.size ≤ 9223372036854775807) ∧ n ≤ 9223372036854775807 := by
  rcases Go.Deep.open_slice Try.underlying22 h with ⟨hcs, _⟩ | ⟨a, len, cap, m, n, D, Pl, hcs, _, hl, hm, hmm, _, hf⟩
  · injection hcs with hcs
    subst hcs
    exact ⟨none, 0, 0, [], rfl, ⟨rfl, 0, 0, ⟨Nat.zero_le _, fun h => absurd rfl h, fun i j hi => absurd hi (Nat.not_lt_zero _)⟩⟩, fun x h => (by cases h), Nat.zero_le _⟩
  · injection hcs with hcs
    subst hcs
    have hlm : len ≤ m := by rw [hmm]; split <;> omega
    rw [cellsRTm] at hf
    have each : ∀ i, i < len → ∃ y : Tm, (w.cell? (a.add (i * 3 + 0)) = some (.string y.s) ∧ w.cell? (a.add (i * 3 + 1)) = some (.string y.t) ∧ w.cell? (a.add (i * 3 + 2)) = some (.bool y.f)) ∧ y.s.size ≤ 9223372036854775807 ∧ y.t.size ≤ 9223372036854775807 := fun i hi => by
      obtain ⟨cs', h1, h2⟩ := hf i (by omega)
      obtain ⟨_, hlen, hcell⟩ := World.cells?_some h1
      obtain ⟨y, rfl, s1, s2⟩ := tm_of h2
      refine ⟨y, ⟨?_, ?_, ?_⟩, s1, s2⟩
      · have := hcell 0 (by omega); rw [Go.Deep.add_add] at this; exact this
      · have := hcell 1 (by omega); rw [Go.Deep.add_add] at this; exact this
      · have := hcell 2 (by omega); rw [Go.Deep.add_add] at this; exact this
    obtain ⟨g, hg⟩ := Go.Deep.choose_lt each
    have hgd : ∀ i, i < len → ((List.range len).map g).getD i tm0 = g i := fun i hi => by simp [List.getD, hi]
    have hsz : ∀ x ∈ (List.range len).map g, x.s.size ≤ 9223372036854775807 ∧ x.t.size ≤ 9223372036854775807 := fun x hx => by
      obtain ⟨i, hi, rfl⟩ := List.mem_map.1 hx
      exact (hg i (List.mem_range.1 hi)).2
    have hln : ((List.range len).map g).length = len := by simp
    unfold maxLen at hm
    by_cases h0 : len = 0
    · subst h0
      exact ⟨some a, 0, cap, _, rfl, ⟨hln, 0, 0, ⟨Nat.zero_le _, fun h => absurd rfl h, fun i j hi => absurd hi (Nat.not_lt_zero _)⟩⟩, hsz, by omega⟩
    · have ha := spotG (by have := (hg 0 (by omega)).1.1; rwa [Nat.zero_mul, Nat.zero_add] at this)
      have had : ∀ j, a.add j = ⟨a.block, a.off + j, none⟩ := fun j => by
        conv => lhs; rw [ha]
        unfold Addr.add
        split
        · rename_i h; subst h; rfl
        · rfl
      refine ⟨some a, len, cap, _, rfl, ⟨hln, a.block, a.off, ⟨by omega, fun _ => by rw [← ha], fun i j hi hj => ?_⟩⟩, hsz, by omega⟩
      obtain ⟨⟨c0, c1, c2⟩, _⟩ := hg i hi
      rw [had] at c0 c1 c2
      unfold tmC
      rw [hgd i hi, Nat.add_assoc]
      rcases (by omega : j = 0 ∨ j = 1 ∨ j = 2) with e | e | e <;> subst e
      · exact c0
      · exact c1
      · exact c2
end
end Go.Proofs.Ytkodnagneblgaaa
