/- Walks: a document of pieces (the reference's Of). -/
import Derived.Test.YtpionddponmdmaaGreatDoorQ05
namespace Go.Proofs.YtpionddponmdmaaGreatDoor
open Go.RowKit
attribute [local go_sem] Ext.cell Ext.frozen
attribute [local go_sem ↓] Go.wp_at_zero Go.wp_at_succ

/-- a row of the call's own that holds something -/
theorem own_parts {w : World} {base : Nat} {E : TypeId} {ad : Option Addr} {n c : Nat} {xs : List Value} (h : w.ownsRow base E 1 (.slice ad n c) n xs) (hn : 0 < n) :
    ∃ g, ad = some ⟨g, 0, none⟩ ∧ base ≤ g ∧ g < w.heap.size ∧ n ≤ c ∧ c ≤ 9223372036854775807 ∧ SlAt w (some ⟨g, 0, none⟩) n xs g 0 ∧ (∃ cur : Array Value, w.heap[g]? = some (.cells cur E (0, 0)) ∧ c = cur.size ∧ cur.toList.take n = xs) := by
  have hl : xs.length = n := by have := h.1; omega
  obtain ⟨_, ⟨h1, h2⟩ | ⟨g, cap, cur, h1, h2, h3, h4, h5, h6, h7⟩⟩ := h
  · omega
  · injection h1 with e1 e2 e3
    subst e1
    subst e3
    have hg : g < w.heap.size := (Array.getElem?_eq_some_iff.1 h3).1
    refine ⟨g, rfl, h2, hg, h4, by unfold maxLen at h5; omega, ⟨hl, by unfold maxLen at h5; omega, fun _ => rfl, fun i hi => ?_⟩, cur, h3, by omega, by simpa using h7⟩
    have hi' : i < cur.size := by omega
    have hx : xs.getD i undef = cur[i] := by
      rw [← h7]
      simp only [List.getD, Nat.mul_one]
      rw [List.getElem?_take, if_pos hi]
      simp [hi']
    rw [hx]
    simp [World.cell?, h3, hi']
theorem slat_mid {w : World} {g k : Nat} {h t : ByteArray} {xs : List ByteArray} (hs : SlAt w (some ⟨g, 0, none⟩) (k + 1) (strs (allV h xs t)) g 0) (hl : xs.length + 1 = k) : Sl w (some ⟨g, 1, none⟩) (k - 1) (strs xs) :=
  ⟨g, 1, ⟨by rw [strs_length]; omega, by have := hs.max; omega, fun _ => rfl, fun i hi => by
    have := hs.cell (i + 1) (by omega)
    rw [strs_getD _ _ (by rw [allV_len]; omega), allV_mid _ _ _ (by omega)] at this
    rw [strs_getD _ _ (by omega), ← this]
    congr 2; omega⟩⟩
end Go.Proofs.YtpionddponmdmaaGreatDoor
/- Slices of pieces: how they lie; one piece behind a row of the call's own. -/
namespace Go.Proofs.YtpionddponmdmaaGreatDoor
open Go.RowKit

/-- a slice of pieces -/
structure PcAt (w : World) (ad : Option Addr) (n : Nat) (ps : List (Int × ByteArray)) (b off : Nat) : Prop where
  len : ps.length = n
  max : n ≤ 9223372036854775807
  adr : n ≠ 0 → ad = some ⟨b, off, none⟩
  c0 : ∀ i (_h : i < n), w.cell? ⟨b, off + i * 2, none⟩ = some (.int .i64 (ps.getD i (0, .empty)).1)
  c1 : ∀ i (_h : i < n), w.cell? ⟨b, off + i * 2 + 1, none⟩ = some (.string (ps.getD i (0, .empty)).2)
theorem PcAt.block {w : World} {ad : Option Addr} {n : Nat} {ps} {b off : Nat} (h : PcAt w ad n ps b off) (hn : n ≠ 0) : b < w.heap.size :=
  World.block_lt_of_cell? w _ (h.c0 0 (by omega))
theorem PcAt.below {w w' : World} {ad : Option Addr} {n : Nat} {ps} {b off : Nat} (h : PcAt w ad n ps b off) (hb : Below w.heap.size w w') : PcAt w' ad n ps b off :=
  ⟨h.len, h.max, h.adr, fun i hi => by rw [hb.cell (p := ⟨b, off + i * 2, none⟩) (h.block (by omega))]; exact h.c0 i hi,
    fun i hi => by rw [hb.cell (p := ⟨b, off + i * 2 + 1, none⟩) (h.block (by omega))]; exact h.c1 i hi⟩
/-- .. from some place on -/
def Pc (w : World) (ad : Option Addr) (n : Nat) (ps : List (Int × ByteArray)) : Prop := ∃ b off, PcAt w ad n ps b off
theorem Pc.below {w w' : World} {ad : Option Addr} {n : Nat} {ps} (h : Pc w ad n ps) (hb : Below w.heap.size w w') : Pc w' ad n ps := by
  obtain ⟨b, off, h⟩ := h
  exact ⟨b, off, h.below hb⟩
theorem Pc.len {w : World} {ad : Option Addr} {n : Nat} {ps} (h : Pc w ad n ps) : ps.length = n := by obtain ⟨b, off, h⟩ := h; exact h.len
theorem Pc.max {w : World} {ad : Option Addr} {n : Nat} {ps} (h : Pc w ad n ps) : n ≤ 9223372036854775807 := by obtain ⟨b, off, h⟩ := h; exact h.max
theorem Pc.nil (w : World) (ad : Option Addr) : Pc w ad 0 [] := ⟨0, 0, ⟨rfl, Nat.zero_le _, fun h => absurd rfl h, fun _i hi => absurd hi (Nat.not_lt_zero _), fun _i hi => absurd hi (Nat.not_lt_zero _)⟩⟩
theorem PcAt.ix {P : Program} {w : World} {ad : Option Addr} {n : Nat} {ps} {b off : Nat} (h : PcAt w ad n ps b off) (T E : TypeId) (hT : P.underlying T = some (.slice E)) (hE : P.cellsOf E = 2) {i : Nat} (hi : i < n) (c : Nat) (W : World) :
    (Instr.indexAt T (.slice ad n c) (.int .i64 (i : Int))).run P W = .ok (.pointer (some ⟨b, off + i * 2, none⟩)) W := by
  rw [h.adr (by omega)]
  have hel : P.elem T = E := by simp [Program.elem, hT]
  rw [run_indexAt_slice W T _ n c .i64 i (by rw [hel]; exact hT), hel, if_pos (by omega)]
  have hs : (sizeOf E).run P W = .ok 2 W := by
    unfold Program.cellsOf at hE
    cases hi' : P.info? E with
    | none => simp [hi'] at hE
    | some q => simp [hi'] at hE; simp [sizeOf, typeInfo, hi', hE]
  rw [hs]
  simp [Result.andThen, Addr.add]
/-- the cells of pieces -/
def pcCells (ps : List (Int × ByteArray)) : List Value := ps.flatMap fun p => [.int .i64 p.1, .string p.2]
theorem pcCells_len (ps : List (Int × ByteArray)) : (pcCells ps).length = ps.length * 2 := by
  induction ps with
  | nil => rfl
  | cons p ps ih => simp only [pcCells, List.flatMap_cons, List.length_append, List.length_cons, List.length_nil] at ih ⊢; omega
theorem pcCells_snoc (ps : List (Int × ByteArray)) (p : Int × ByteArray) : pcCells (ps ++ [p]) = pcCells ps ++ [.int .i64 p.1, .string p.2] := by simp [pcCells]
theorem pcCells_at : ∀ (ps : List (Int × ByteArray)) (i : Nat), i < ps.length → (pcCells ps)[i * 2]? = some (.int .i64 (ps.getD i (0, .empty)).1) ∧ (pcCells ps)[i * 2 + 1]? = some (.string (ps.getD i (0, .empty)).2)
  | [], i, h => absurd h (Nat.not_lt_zero _)
  | p :: ps, 0, _ => ⟨rfl, rfl⟩
  | p :: ps, i + 1, h => by
    have := pcCells_at ps i (by simpa using h)
    rw [show (i + 1) * 2 = i * 2 + 1 + 1 by omega]
    simpa [pcCells] using this
theorem own_form_k {w : World} {base : Nat} {E : TypeId} {size : Nat} {v : Value} {n : Nat} {xs : List Value} (h : w.ownsRow base E size v n xs) : ∃ ad c, v = .slice ad n c := by
  obtain ⟨_, ⟨rfl, rfl⟩ | ⟨g, cap, cur, rfl, _⟩⟩ := h
  · exact ⟨_, _, rfl⟩
  · exact ⟨_, _, rfl⟩
/-- a row of the call's own, as pieces -/
theorem own_pc {w : World} {base : Nat} {E : TypeId} {ad : Option Addr} {n c : Nat} {ps} (h : w.ownsRow base E 2 (.slice ad n c) n (pcCells ps)) : Pc w ad n ps := by
  have hl : ps.length = n := by have := h.1; rw [pcCells_len] at this; omega
  obtain ⟨_, ⟨h1, h2⟩ | ⟨g, cap, cur, h1, h2, h3, h4, h5, h6, h7⟩⟩ := h
  · subst h2
    obtain rfl := List.eq_nil_of_length_eq_zero hl
    exact Pc.nil _ _
  · injection h1 with e1 e2 e3
    subst e1
    have hc : ∀ j, j < n * 2 → w.cell? ⟨g, j, none⟩ = (pcCells ps)[j]? := fun j hj => by
      have hj' : j < cur.size := by omega
      rw [← h7, List.getElem?_take, if_pos hj]
      simp [World.cell?, h3, hj']
    refine ⟨g, 0, ⟨hl, by unfold maxLen at h5; omega, fun _ => rfl, fun i hi => ?_, fun i hi => ?_⟩⟩
    · rw [Nat.zero_add, hc _ (by omega)]; exact (pcCells_at ps i (by omega)).1
    · rw [Nat.zero_add, hc _ (by omega)]; exact (pcCells_at ps i (by omega)).2
theorem own_below2 {w w' : World} {base : Nat} {E : TypeId} {size : Nat} {v : Value} {n : Nat} {xs : List Value} (h : w.ownsRow base E size v n xs) (hb : Below w.heap.size w w') : w'.ownsRow base E size v n xs := by
  refine ⟨h.1, ?_⟩
  rcases h.2 with h2 | ⟨g, cap, cur, h1, h2, h3, h4, h5, h6, h7⟩
  · exact .inl h2
  · exact .inr ⟨g, cap, cur, h1, h2, (hb.block g (Array.getElem?_eq_some_iff.1 h3).1).trans h3, h4, h5, h6, h7⟩
theorem below_drewN (w : World) (n : Nat) : Below w.heap.size w (w.drewN n) := ⟨rfl, rfl, rfl, Nat.le_refl _, fun _ _ => rfl⟩
theorem own_rebase {w : World} {base base' : Nat} {E : TypeId} {size : Nat} {v : Value} {n : Nat} {xs : List Value} (h : w.ownsRow base E size v n xs) (hb : base' ≤ base) : w.ownsRow base' E size v n xs := by
  refine ⟨h.1, ?_⟩
  rcases h.2 with h2 | ⟨g, cap, cur, h1, h2, h3⟩
  · exact .inl h2
  · exact .inr ⟨g, cap, cur, h1, by omega, h3⟩
/-- append of one piece to a row of the call's own -/
theorem wpList_app2 {P : Program} {ops : Array Oper} {rest : List Oper} {o : Oper} {a : Act} {Q : Exit → Act → World → Prop} {w : World} (t E : TypeId)
    (ht : P.underlying t = some (.slice E)) (i : TypeInfo) (z : Value) (hi : P.info? E = some i) (hz : i.zero = some z) (hsize : i.size = 2) (hby : i.bytes = 24) (hzs : z.cells.size = 2)
    (hgd : o.guard = none) (s x : Operand) (ho : o.op = .call { callee := .builtin .append, args := #[s, x], argTypes := #[t, t] })
    (base : Nat) (ad : Option Addr) (n c : Nat) (xs : List Value) (hs : a.eval s = .slice ad n c) (hown : w.ownsRow base E 2 (.slice ad n c) n xs)
    (y0 y1 : Value) (E' : TypeId) (hx : a.eval x = .slice (some ⟨w.heap.size, 0, none⟩) 1 1) (h0 : y0.oneCell' = true) (h1 : y1.oneCell' = true)
    (hn : n ≤ 1000000000) (hbase : base ≤ w.heap.size)
    (h : ∀ ad' c' w', w'.ownsRow base E 2 (.slice ad' (n + 1) c') (n + 1) (xs ++ [y0, y1]) → Below base w w' → w.grownBy w' (Value.ownBlock (.slice ad n c)) → w.heap.size < w'.heap.size →
      wpList P ops Q rest (a.put o.dst (.slice ad' (n + 1) c')) w') : wpList P ops Q (o :: rest) a (w.alloc (.cells #[y0, y1] E')) := by
  refine wpList_append_own _ hgd s x t ho base E i z 2 24 ht hi hz hsize hby hzs (by omega) (.slice ad n c) n xs hs (World.ownsRow.alloc hown _) ⟨w.heap.size, 0, none⟩ 1 1 [y0, y1] hx rfl (World.news_of_block (row_new w #[y0, y1] E'))
    (by intro u hu; simp at hu; rcases hu with rfl | rfl <;> assumption) (by unfold maxLen; omega) (by omega) (by simp; omega) ?_
  intro v' w' g1 g2 _
  obtain ⟨ad', c', rfl⟩ := own_form_k g1
  have hlt := World.ownsRow.lt hown
  refine h ad' c' w' g1 ?_ ?_ (by have := g2.size; simp at this; omega)
  · exact ((Below.refl base w).alloc hbase _).grown g2 (by simp; omega) (fun k hk => (hlt k hk).1)
  · exact ⟨g2.os, g2.tape, g2.output, by have := g2.size; simp at this; omega, fun k hk hne => (g2.block k (by simp; omega) hne).trans (Below.heap_alloc _ _ _ hk)⟩
/-- pieces are answered, in a row of the call's own -/
def PcPost (E : TypeId) (w : World) (ps : List (Int × ByteArray)) (e : Ending) (w' : World) : Prop :=
  ∃ ad c, e = .returned (.slice ad ps.length c) ∧ w'.ownsRow w.heap.size E 2 (.slice ad ps.length c) ps.length (pcCells ps) ∧ Below w.heap.size w w'
end Go.Proofs.YtpionddponmdmaaGreatDoor
