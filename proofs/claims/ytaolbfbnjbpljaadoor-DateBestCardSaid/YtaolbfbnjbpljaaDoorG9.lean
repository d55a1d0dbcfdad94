/- One slice of date patterns behind another. -/
import Derived.Test.YtaolbfbnjbpljaaDoorV11
import Derived.Laws.AppendOwnNone
namespace Go.Proofs.YtaolbfbnjbpljaaDoor
open Go.RowKit
theorem infoPat : (Tryd.prog.info? 39).map (fun i => (i.zero, i.size, i.bytes)) = some (some (.agg #[.string .empty, .string .empty]), 2, 32) := by kernel_rfl
/-- the cells of patterns -/
def patCells : List (List UInt8 × List UInt8) → List Value
  | [] => []
  | p :: ps => .string (bs p.1) :: .string (bs p.2) :: patCells ps
theorem patCells_len : ∀ ps, (patCells ps).length = ps.length * 2
  | [] => rfl
  | p :: ps => by simp only [patCells, List.length_cons, patCells_len ps]; omega
theorem patCells_app : ∀ ps qs, patCells (ps ++ qs) = patCells ps ++ patCells qs
  | [], _ => rfl
  | p :: ps, qs => by simp only [List.cons_append, patCells, patCells_app ps qs]
theorem patCells_at : ∀ (ps : List (List UInt8 × List UInt8)) (i : Nat), i < ps.length → (patCells ps)[i * 2]? = some (.string (bs (ps.getD i ([], [])).1)) ∧ (patCells ps)[i * 2 + 1]? = some (.string (bs (ps.getD i ([], [])).2))
  | [], i, h => absurd h (Nat.not_lt_zero _)
  | p :: ps, 0, _ => ⟨rfl, rfl⟩
  | p :: ps, i + 1, h => by
    have := patCells_at ps i (by simpa using h)
    rw [show (i + 1) * 2 = i * 2 + 1 + 1 by omega]
    simpa [patCells] using this
theorem patCells_one : ∀ (ps : List (List UInt8 × List UInt8)), ∀ u ∈ patCells ps, u.oneCell' = true
  | [], u, h => by cases h
  | p :: ps, u, h => by
    simp only [patCells, List.mem_cons] at h
    rcases h with h | h | h
    · subst h; rfl
    · subst h; rfl
    · exact patCells_one ps u h
theorem PatAt.news {w : World} {a : Addr} {n : Nat} {ps} {b off : Nat} (h : PatAt w (some a) n ps b off) : ∀ j u, (patCells ps)[j]? = some u → w.cell? (a.add j) = some u := by
  intro j u hu
  have hj : j < (patCells ps).length := (List.getElem?_eq_some_iff.1 hu).1
  rw [patCells_len, h.len] at hj
  have ha : a = ⟨b, off, none⟩ := by have := h.adr (by omega); injection this
  have had : a.add j = ⟨b, off + j, none⟩ := by
    rw [ha]
    unfold Addr.add
    split
    · rename_i h; subst h; rfl
    · rfl
  have hi : j / 2 < n := by omega
  obtain ⟨h0, h1⟩ := patCells_at ps (j / 2) (by rw [h.len]; exact hi)
  rw [had]
  rcases Nat.mod_two_eq_zero_or_one j with hm | hm
  · rw [show j / 2 * 2 = j by omega] at h0
    rw [← hu, h0, show off + j = off + j / 2 * 2 by omega]
    exact h.c0 _ hi
  · rw [show j / 2 * 2 + 1 = j by omega] at h1
    rw [← hu, h1, show off + j = off + j / 2 * 2 + 1 by omega]
    exact h.c1 _ hi
theorem own_form2 {w : World} {base : Nat} {E : TypeId} {v : Value} {n : Nat} {xs : List Value} (h : w.ownsRow base E 2 v n xs) : ∃ ad c, v = .slice ad n c := by
  obtain ⟨_, ⟨rfl, rfl⟩ | ⟨g, cap, cur, rfl, _⟩⟩ := h
  · exact ⟨_, _, rfl⟩
  · exact ⟨_, _, rfl⟩
/-- a row of the call's own, as patterns -/
theorem own_pat {w : World} {base : Nat} {ad : Option Addr} {n c : Nat} {ps} (h : w.ownsRow base 39 2 (.slice ad n c) n (patCells ps)) : ∃ b, PatAt w ad n ps b 0 := by
  have hl : ps.length = n := by have := h.1; rw [patCells_len] at this; omega
  obtain ⟨_, ⟨h1, h2⟩ | ⟨g, cap, cur, h1, h2, h3, h4, h5, h6, h7⟩⟩ := h
  · subst h2
    exact ⟨0, hl, Nat.zero_le _, fun h => absurd rfl h, fun i hi => absurd hi (Nat.not_lt_zero _), fun i hi => absurd hi (Nat.not_lt_zero _)⟩
  · injection h1 with e1 e2 e3
    subst e1
    have hc : ∀ j, j < n * 2 → w.cell? ⟨g, j, none⟩ = (patCells ps)[j]? := fun j hj => by
      have hj' : j < cur.size := by omega
      rw [← h7, List.getElem?_take, if_pos hj]
      simp [World.cell?, h3, hj']
    refine ⟨g, hl, by unfold maxLen at h5; omega, fun _ => rfl, fun i hi => ?_, fun i hi => ?_⟩
    · rw [Nat.zero_add, hc _ (by omega)]; exact (patCells_at ps i (by omega)).1
    · rw [Nat.zero_add, hc _ (by omega)]; exact (patCells_at ps i (by omega)).2
/-- append of a slice of patterns to a row of the call's own -/
theorem app_pats {ops : Array Oper} {rest : List Oper} {o : Oper} {a : Act} {Q : Exit → Act → World → Prop} {w : World} (hgd : o.guard = none) (s x : Operand)
    (ho : o.op = .call { callee := .builtin .append, args := #[s, x], argTypes := #[35, 35] })
    (base : Nat) (ad : Option Addr) (n c : Nat) (xs : List Value) (hs : a.eval s = .slice ad n c) (hown : w.ownsRow base 39 2 (.slice ad n c) n xs)
    (ad2 : Option Addr) (n2 c2 : Nat) (qs : List (List UInt8 × List UInt8)) (b2 off2 : Nat) (hx : a.eval x = .slice ad2 n2 c2) (hq : PatAt w ad2 n2 qs b2 off2) (hc2 : ad2 = none → c2 = 0)
    (hn : n + n2 ≤ 1000) (hbase : base ≤ w.heap.size)
    (h : ∀ ad' c' w', w'.ownsRow base 39 2 (.slice ad' (n + n2) c') (n + n2) (xs ++ patCells qs) → Below base w w' → wpList Tryd.prog ops Q rest (a.put o.dst (.slice ad' (n + n2) c')) w') : wpList Tryd.prog ops Q (o :: rest) a w := by
  obtain ⟨i0, hi, hz0, hz1, hz2⟩ := info_parts infoPat
  cases ad2 with
  | none =>
    have h0 : n2 = 0 := by
      rcases Nat.eq_zero_or_pos n2 with h | h
      · exact h
      · have := hq.adr (by omega); cases this
    obtain rfl := hc2 rfl
    subst h0
    have hqs : qs = [] := List.eq_nil_of_length_eq_zero hq.len
    subst hqs
    refine wpList_append_own_none hgd s x _ ho base 39 i0 2 Tryd.underlying35 hi (.slice ad n c) n xs hs hown hx ?_
    exact h ad c w (by simpa [patCells] using hown) (Below.refl _ _)
  | some A2 =>
    refine wpList_append_own _ hgd s x _ ho base 39 i0 (.agg #[.string .empty, .string .empty]) 2 32 Tryd.underlying35 hi hz0 hz1 hz2 rfl (by omega) (.slice ad n c) n xs hs hown A2 n2 c2 (patCells qs) hx (by rw [patCells_len, hq.len]) hq.news (patCells_one qs) (by unfold maxLen; omega) (by omega) hbase ?_
    intro v' w' h1 h2 _
    obtain ⟨ad', c', rfl⟩ := own_form2 h1
    exact h ad' c' w' h1 ((Below.refl base w).grown h2 hbase (fun k hk => (World.ownsRow.lt hown k hk).1))
end Go.Proofs.YtaolbfbnjbpljaaDoor
