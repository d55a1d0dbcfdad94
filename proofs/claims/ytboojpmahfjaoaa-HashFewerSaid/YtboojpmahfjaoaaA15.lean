/- The two regions of Build that draw their order and hold whole sets. -/
import Derived.Test.YtboojpmahfjaoaaA14
import Derived.Test.YtboojpmahfjaoaaI1
namespace Go.Proofs.Ytboojpmahfjaoaa
open Go.RowKit

def ds32 : List Nat := [99, 100, 101, 102, 103, 104, 105, 106, 98, 107, 108, 17, 18]

/-- while 'next, ok := try(..)' is under way -/
structure J32 (A0 : Act) (T : List (Nat × Nat × Value)) (w0 : World) (csr : Array Value) (L : Array Bool) (a : Act) (w : World) : Prop where
  fr : Fr A0 a ds32
  tab : Tab T L a
  bel : Below w0.heap.size w0 w
  box : L.getD 11 false = true → ∃ B Z, a.tmps.getD 17 undef = .pointer (some ⟨B, 0, none⟩) ∧ w0.heap.size ≤ B ∧ w.heap[B]? = some (.cells Z 52 (0, 0)) ∧ Z.size = 16 ∧ (L.getD 12 false = true → Z = csr)
  ordr : L.getD 12 false = true → L.getD 11 false = true

theorem J32.det {A0 : Act} {T : List (Nat × Nat × Value)} {w0 : World} {csr : Array Value} {L : Array Bool} {a : Act} {w : World} (h : J32 A0 T w0 csr L a w) (hA : A0.tmps.size = 118) (hL : L.size = 14) (i d : Nat) (v : Value)
    (hi : i < 14) (hd : d ∈ ds32) (h17 : d ≠ 17) (h11 : i ≠ 11) (h12 : i ≠ 12) (hT : ∀ x ∈ T, (x.1 = i ↔ x.2.1 = d) ∧ (x.1 = i → x.2.2 = v)) {w' : World} (hb : Below w.heap.size w w') : J32 A0 T w0 csr (L.setIfInBounds i true) (a.put (some d) v) w' := by
  have hd' : d < a.tmps.size := by rw [h.fr.size, hA]; simp [ds32] at hd; omega
  refine ⟨h.fr.put hd v, h.tab.put hd' (by omega) hT, h.bel.trans (hb.mono h.bel.size), fun h' => ?_, fun h' => ?_⟩
  · rw [getD_set_other h11] at h'
    rw [getD_set_other h12, getD_put_other h17]
    obtain ⟨B, Z, h1, h2, h3, h4⟩ := h.box h'
    exact ⟨B, Z, h1, h2, (hb.block B (Array.getElem?_eq_some_iff.1 h3).1).trans h3, h4⟩
  · rw [getD_set_other h12] at h'
    rw [getD_set_other h11]
    exact h.ordr h'

theorem J32.alloc {A0 : Act} {T : List (Nat × Nat × Value)} {w0 : World} {csr : Array Value} {L : Array Bool} {a : Act} {w : World} (h : J32 A0 T w0 csr L a w) (hA : A0.tmps.size = 118) (hL : L.size = 14) (Z : Array Value) (hZ : Z.size = 16)
    (h11 : L.getD 11 true = false) (hT : ∀ x ∈ T, x.1 ≠ 11 ∧ x.2.1 ≠ 17) : J32 A0 T w0 csr (L.setIfInBounds 11 true) (a.put (some 17) (.pointer (some ⟨w.heap.size, 0, none⟩))) (w.alloc (.cells Z 52)) := by
  have hd' : 17 < a.tmps.size := by rw [h.fr.size, hA]; omega
  refine ⟨h.fr.put (by decide) _, h.tab.put hd' (by omega) (fun x hx => ?_), h.bel.alloc h.bel.size _, fun _ => ⟨w.heap.size, Z, getD_put_same hd', h.bel.size, heap_alloc_last _ _, hZ, fun h' => ?_⟩, fun _ => getD_set_same (by omega)⟩
  · obtain ⟨h1, h2⟩ := hT x hx
    exact ⟨⟨fun e => absurd e h1, fun e => absurd e h2⟩, fun e => absurd e h1⟩
  · rw [getD_set_other (by omega)] at h'
    have h1 := h.ordr h'
    have h2 : (11 : Nat) < L.size := by omega
    simp only [Array.getD, h2, dif_pos] at h1 h11
    rw [h1] at h11
    cases h11

theorem J32.store {A0 : Act} {T : List (Nat × Nat × Value)} {w0 : World} {csr : Array Value} {L : Array Bool} {a : Act} {w : World} (h : J32 A0 T w0 csr L a w) (hc : csr.size = 16) {B : Nat} (hB : a.tmps.getD 17 undef = .pointer (some ⟨B, 0, none⟩))
    (hB0 : w0.heap.size ≤ B) {Z : Array Value} (hrow : w.heap[B]? = some (.cells Z 52 (0, 0))) (h11 : L.getD 11 false = true) (hT : ∀ x ∈ T, x.1 ≠ 12) : J32 A0 T w0 csr (L.setIfInBounds 12 true) a (w.setRow B csr) := by
  refine ⟨h.fr, h.tab.skip hT, below_setRow h.bel hB0 _, fun _ => ⟨B, csr, hB, hB0, setRow_heap _ _ _ _ _ _ hrow, hc, fun _ => rfl⟩, fun _ => by rw [getD_set_other (by omega)]; exact h11⟩

def ds34 : List Nat := [110, 111, 112, 113, 114, 115]
/-- while 'taken, t.Seeds[b] = next, seed' is under way -/
structure J34 (A0 : Act) (T : List (Nat × Nat × Value)) (X0 : World) (T0 S0 B j : Nat) (csn : Array Value) (cso : Array Value) (sd sdn : Nat → Nat) (L : Array Bool) (a : Act) (w : World) : Prop where
  fr : Fr A0 a ds34
  tab : Tab T L a
  chg : Chg X0 w [T0, S0]
  nxt : w.heap[B]? = some (.cells csn 52 (0, 0))
  row : ∃ Z, w.heap[T0]? = some (.cells Z 52 (0, 0)) ∧ Z.size = 16 ∧ (L.getD 5 false = true → Z = csn)
  seeds : SeedAt w S0 j (if L.getD 7 false = true then sdn else sd)

theorem J34.det {A0 : Act} {T : List (Nat × Nat × Value)} {X0 : World} {T0 S0 B j : Nat} {csn cso : Array Value} {sd sdn : Nat → Nat} {L : Array Bool} {a : Act} {w : World} (h : J34 A0 T X0 T0 S0 B j csn cso sd sdn L a w) (hA : A0.tmps.size = 118) (hL : L.size = 8) (i d : Nat) (v : Value)
    (hi : i < 8) (hd : d ∈ ds34) (h5 : i ≠ 5) (h7 : i ≠ 7) (hT : ∀ x ∈ T, (x.1 = i ↔ x.2.1 = d) ∧ (x.1 = i → x.2.2 = v)) : J34 A0 T X0 T0 S0 B j csn cso sd sdn (L.setIfInBounds i true) (a.put (some d) v) w := by
  have hd' : d < a.tmps.size := by rw [h.fr.size, hA]; simp [ds34] at hd; omega
  refine ⟨h.fr.put hd v, h.tab.put hd' (by omega) hT, h.chg, h.nxt, ?_, ?_⟩
  · rw [getD_set_other h5]; exact h.row
  · rw [getD_set_other h7]; exact h.seeds

theorem J34.take {A0 : Act} {T : List (Nat × Nat × Value)} {X0 : World} {T0 S0 B j : Nat} {csn cso : Array Value} {sd sdn : Nat → Nat} {L : Array Bool} {a : Act} {w : World} (h : J34 A0 T X0 T0 S0 B j csn cso sd sdn L a w) (hc : csn.size = 16) (hBT : B ≠ T0) (hST : S0 < T0) (hT : ∀ x ∈ T, x.1 ≠ 5) :
    J34 A0 T X0 T0 S0 B j csn cso sd sdn (L.setIfInBounds 5 true) a (w.setRow T0 csn) := by
  obtain ⟨Z, h1, h2, h3⟩ := h.row
  refine ⟨h.fr, h.tab.skip hT, ?_, ?_, ⟨csn, setRow_heap _ _ _ _ _ _ h1, hc, fun _ => rfl⟩, ?_⟩
  · exact h.chg.trans ⟨rfl, rfl, rfl, by simp [World.setRow], fun k hk hn => setRow_other w T0 k csn (fun e => hn (by simp [e]))⟩
  · rw [setRow_other w T0 B csn hBT]; exact h.nxt
  · rw [getD_set_other (by omega)]
    exact h.seeds.chg (below_setRow (Below.refl _ _) (by omega) _)

theorem J34.seed {A0 : Act} {T : List (Nat × Nat × Value)} {X0 : World} {T0 S0 B j : Nat} {csn cso : Array Value} {sd : Nat → Nat} {L : Array Bool} {a : Act} {w : World} {bb s : Nat} (h : J34 A0 T X0 T0 S0 B j csn cso sd (upd sd bb s) L a w) (hL : L.size = 8) (h7 : L.getD 7 false = false) (hbb : bb < j) (hBS : B ≠ S0) (hST : S0 < T0) (hT : ∀ x ∈ T, x.1 ≠ 7) :
    J34 A0 T X0 T0 S0 B j csn cso sd (upd sd bb s) (L.setIfInBounds 7 true) a (w.setCell ⟨S0, bb, none⟩ (.int .i64 (s : Nat))) := by
  obtain ⟨Z, h1, h2, h3⟩ := h.row
  refine ⟨h.fr, h.tab.skip hT, h.chg.setCell S0 bb _ (.inl (by simp)), ?_, ⟨Z, ?_, h2, ?_⟩, ?_⟩
  · rw [heap_setCell_other _ _ _ _ (by simpa using hBS)]; exact h.nxt
  · rw [heap_setCell_other _ _ _ _ (by simp; omega)]; exact h1
  · rw [getD_set_other (by omega)]; exact h3
  · rw [getD_set_same (by omega), if_pos rfl]
    have := h.seeds
    rw [h7] at this
    simp only [Bool.false_eq_true, if_false] at this
    exact this.set hbb s
end Go.Proofs.Ytboojpmahfjaoaa
