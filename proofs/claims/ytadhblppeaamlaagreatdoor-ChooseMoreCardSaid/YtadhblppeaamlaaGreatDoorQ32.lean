/- How an argument that is a struct, or a slice of structs, is read; and that what it holds lies within the reach. -/
import Derived.Test.YtadhblppeaamlaaGreatDoorQ17
import Derived.Test.YtadhblppeaamlaaGreatDoorQ00
import Derived.Deep.Slices
import Derived.ChangeArms
import Derived.SizedLaws
import Derived.Test.YtadhblppeaamlaaGreatDoorQ01
import Derived.Test.YtadhblppeaamlaaGreatDoorQ24
namespace Go.Proofs.YtadhblppeaamlaaGreatDoor
open Go.ChangeShapes Go.WideShapes Go.RowKit
section
variable {H : Type} {enc : TypeId × Value → H} {w : World} {base : Nat} {spare : Nat → Bool} {held : Bool}
/-- a value that reads as data of a type, each of its strings and slices within the reach -/
abbrev Rz (enc : TypeId × Value → H) (w : World) (base : Nat) (spare : Nat → Bool) (held : Bool) (t : TypeId) (cs : List Value) : Prop :=
  ∃ n x, DataW.trod enc Tryz.prog w base spare held n t cs = some x ∧ ∀ m ∈ x.1.weights Tryz.prog t, m ≤ reachBytes
theorem rz_of {n : Nat} {t : TypeId} {cs : List Value} {x : DataW H × List MemPlace} (h : DataW.trod enc Tryz.prog w base spare held n t cs = some x) (hz : ∀ m ∈ x.1.weights Tryz.prog t, m ≤ reachBytes) : Rz enc w base spare held t cs := ⟨n, x, h, hz⟩
theorem rz_sized {ts : List TypeId} {ds : List (DataW H)} {n : Nat} {t : TypeId} {cs : List Value} {x : DataW H × List MemPlace} (h : DataW.trod enc Tryz.prog w base spare held n t cs = some x)
    (hsz : (DataW.weightsEach Tryz.prog ts ds).all (· ≤ reachBytes) = true) (j : Nat) (ht : ts[j]? = some t) (hd : ds[j]? = some x.1) : Rz enc w base spare held t cs :=
  ⟨n, x, h, fun m hm => by simpa using List.all_eq_true.1 hsz _ (DataW.weights_mem_each ht hd m hm)⟩
theorem spot_of_cell' {W : World} {a : Addr} {v : Value} (h : W.cell? (a.add 0) = some v) : a = ⟨a.block, a.off, none⟩ := by
  have hs : a.spot = none := by simpa [Addr.add] using World.cell?_spot h
  cases a
  simp at hs
  simp [hs]
theorem weightsAll_mem {P : Program} {e : TypeId} : ∀ {l : List (DataW H)} {d : DataW H}, d ∈ l → ∀ m ∈ d.weights P e, m ∈ DataW.weightsAll P e l
  | d0 :: r, d, h, m, hm => by
    simp only [DataW.weightsAll, List.mem_append]
    rcases List.mem_cons.1 h with h | h
    · subst h; exact .inl hm
    · exact .inr (weightsAll_mem h m hm)
theorem rz_rows {t e : TypeId} {k : Nat} {v : Value} (ht : Tryz.prog.underlying t = some (.slice e)) (hk : Tryz.prog.cellsOf e = k) (hk0 : 0 < k) (h : Rz enc w base spare held t [v]) :
    ∃ ad n c, ∃ f : Nat → Nat → Value, ∃ b off, v = .slice ad n c ∧ Rw w ad n k f b off ∧ (ad = none → c = 0) ∧ n * Tryz.prog.bytesOf e ≤ reachBytes ∧ ∀ i, i < n → Rz enc w base spare held e ((List.range k).map (f i)) := by
  obtain ⟨fu, x, h, hz⟩ := h
  rcases Go.Deep.open_slice ht h with ⟨hcs, _⟩ | ⟨a, len, cap, m, n, D, Pl, hcs, _, hl, hm, hmm, hxe, hf⟩
  · injection hcs with hcs
    subst hcs
    exact ⟨none, 0, 0, fun _ _ => undef, 0, 0, rfl, ⟨Nat.zero_le _, fun h => absurd rfl h, fun i j hi => absurd hi (Nat.not_lt_zero _)⟩, fun _ => rfl, by rw [Nat.zero_mul]; exact Nat.zero_le _, fun i hi => absurd hi (Nat.not_lt_zero _)⟩
  · injection hcs with hcs
    subst hcs
    subst hxe
    simp only [DataW.weights, ht, List.mem_cons, List.mem_append] at hz
    have hlm : len ≤ m := by rw [hmm]; split <;> omega
    have hzl : len * Tryz.prog.bytesOf e ≤ reachBytes := by
      have := hz _ (.inl rfl)
      simp only [List.length_map, List.length_range] at this
      exact Nat.le_trans (Nat.mul_le_mul_right _ (by omega)) this
    have hze : ∀ i, i < len → ∀ q ∈ (D i).weights Tryz.prog e, q ≤ reachBytes := fun i hi q hq => hz q (.inr (.inl (weightsAll_mem (List.mem_map.2 ⟨i, List.mem_range.2 hi, rfl⟩) q hq)))
    rw [hk] at hf
    have each : ∀ i, i < len → ∃ g : Nat → Value, (∀ j, j < k → w.cell? (a.add (i * k + j)) = some (g j)) ∧ Rz enc w base spare held e ((List.range k).map g) := fun i hi => by
      obtain ⟨cs', h1, h2⟩ := hf i (by omega)
      obtain ⟨_, hlen, hcell⟩ := World.cells?_some h1
      have hc : (List.range k).map (fun j => cs'.getD j undef) = cs' := by
        apply List.ext_getElem
        · simp [hlen]
        · intro j h1 h2
          simp [List.getD, List.getElem?_eq_getElem h2]
      refine ⟨fun j => cs'.getD j undef, fun j hj => ?_, _, _, by rw [hc]; exact h2, hze i hi⟩
      have := hcell j hj
      rw [Go.Deep.add_add] at this
      rw [this]
      simp [List.getD, List.getElem?_eq_getElem (show j < cs'.length by omega)]
    obtain ⟨f, hf2⟩ := Go.Deep.choose_lt each
    by_cases h0 : len = 0
    · subst h0
      exact ⟨some a, 0, cap, f, 0, 0, rfl, ⟨Nat.zero_le _, fun h => absurd rfl h, fun i j hi => absurd hi (Nat.not_lt_zero _)⟩, fun h => (by cases h), hzl, fun i hi => absurd hi (Nat.not_lt_zero _)⟩
    · have ha := spot_of_cell' (by have := (hf2 0 (by omega)).1 0 hk0; rwa [Nat.zero_mul, Nat.zero_add] at this)
      have had : ∀ j, a.add j = ⟨a.block, a.off + j, none⟩ := fun j => by
        conv => lhs; rw [ha]
        unfold Addr.add
        split
        · rename_i h; subst h; rfl
        · rfl
      refine ⟨some a, len, cap, f, a.block, a.off, rfl, ⟨by unfold maxLen at hm; omega, fun _ => by rw [← ha], fun i j hi hj => ?_⟩, fun h => (by cases h), hzl, fun i hi => (hf2 i hi).2⟩
      have := (hf2 i hi).1 j hj
      rw [had] at this
      rw [Nat.add_assoc]
      exact this
theorem rz_string {v : Value} (h : Rz enc w base spare held 9 [v]) : ∃ s, v = .string s ∧ s.size ≤ reachBytes := by
  obtain ⟨n, x, h, hz⟩ := h
  obtain ⟨s, e, hx, _⟩ := DataW.trod_string Tryz.underlying9 h
  injection e with e
  refine ⟨s, e, ?_⟩
  rw [hx] at hz
  simp only [DataW.weights, List.mem_singleton] at hz
  have := hz _ rfl
  simpa using this
theorem rz_int {v : Value} (h : Rz enc w base spare held 3 [v]) : ∃ z : Int, v = .int .i64 z ∧ -9223372036854775808 ≤ z ∧ z ≤ 9223372036854775807 := by
  obtain ⟨n, x, h, _⟩ := h
  obtain ⟨z, e, _, hz⟩ := DataW.trod_int Tryz.underlying3 h
  injection e with e
  simp [Lit.wf, IntKind.min, IntKind.max, IntKind.signed, IntKind.bits] at hz
  exact ⟨z, e, by omega, by omega⟩
/-- a field of a struct -/
theorem rz_field {t : TypeId} {fs : Array Field} {cs : List Value} (ht : Tryz.prog.underlying t = some (.struct fs)) (h : Rz enc w base spare held t cs) (i : Nat) (f : Field) (hi : fs[i]? = some f) : cs.length = Tryz.prog.cellsOf t ∧ Rz enc w base spare held f.type ((cs.drop f.offset).take (Tryz.prog.cellsOf f.type)) := by
  obtain ⟨n, x, h, hz⟩ := h
  obtain ⟨xs, m, _, hx0, hl, hx, hf⟩ := DataW.trod_struct ht h
  have h1 := hf i f hi
  have hlt : i < xs.length := by rw [hx]; exact (Array.getElem?_eq_some_iff.1 hi).1
  rw [List.getElem?_eq_getElem hlt] at h1
  refine ⟨hl, m, _, h1, fun q hq => ?_⟩
  subst hx0
  simp only [DataW.weights, ht] at hz
  exact hz q (DataW.weights_mem_each (j := i) (by simp [hi]) (by simp [List.getElem?_eq_getElem hlt]) q hq)
theorem cStr' : Tryz.prog.cellsOf 9 = 1 := by kernel_rfl
end
end Go.Proofs.YtadhblppeaamlaaGreatDoor
/- How arguments that are a locale, a question, or a value are read. -/
namespace Go.Proofs.YtadhblppeaamlaaGreatDoor
open Go.ChangeShapes Go.WideShapes Go.RowKit
instance : Inhabited Rel := ⟨⟨0, 0, false, []⟩⟩
section
variable {H : Type} {enc : TypeId × Value → H} {w : World} {base : Nat} {spare : Nat → Bool} {held : Bool}
theorem rz_bool {v : Value} (h : Rz enc w base spare held 4 [v]) : ∃ b, v = .bool b := by
  obtain ⟨n, x, h, _⟩ := h
  obtain ⟨b, e, _⟩ := DataW.trod_bool Tryz.underlying4 h
  injection e with e
  exact ⟨b, e⟩
theorem rz_cap {t e : TypeId} {ad : Option Addr} {n c : Nat} (ht : Tryz.prog.underlying t = some (.slice e)) (h : Rz enc w base spare held t [.slice ad n c]) : n ≤ c := by
  obtain ⟨fu, x, h, _⟩ := h
  rcases Go.Deep.open_slice ht h with ⟨hcs, _⟩ | ⟨a, len, cap, m, n', D, Pl, hcs, _, hl, _⟩
  · injection hcs with hcs
    injection hcs with h1 h2 h3
    omega
  · injection hcs with hcs
    injection hcs with h1 h2 h3
    omega
theorem rowsOf_of {α : Type} [Inhabited α] {t e : TypeId} {k : Nat} {v : Value} {C : World → (Nat → Value) → α → Prop} (ht : Tryz.prog.underlying t = some (.slice e)) (hk : Tryz.prog.cellsOf e = k) (hk0 : 0 < k) (hb : 1 ≤ Tryz.prog.bytesOf e) (h : Rz enc w base spare held t [v])
    (each : ∀ g : Nat → Value, Rz enc w base spare held e ((List.range k).map g) → ∃ x : α, C w g x) : ∃ l : List α, RowsOf k C w v l := by
  obtain ⟨ad, n, c, f, b, off, hv, hr, hc, hz, he⟩ := rz_rows ht hk hk0 h
  subst hv
  have hnc := rz_cap ht h
  obtain ⟨q, hq⟩ := Go.Deep.choose_lt (fun i hi => each (f i) (he i hi))
  have hl : ((List.range n).map q).length = n := by simp
  have hn : n ≤ 140737488351232 := by
    rw [show reachBytes = 140737488351232 from rfl] at hz
    exact Nat.le_trans (by have := Nat.mul_le_mul_left n hb; omega) hz
  refine ⟨(List.range n).map q, ad, c, f, b, off, by rw [hl], by rw [hl]; exact hr, hc, by rw [hl]; exact hnc, by rw [hl]; exact hn, fun i x hx => ?_⟩
  have hi : i < n := by
    have := (List.getElem?_eq_some_iff.1 hx).1
    rwa [hl] at this
  have hx2 : q i = x := by
    simp only [List.getElem?_map, List.getElem?_range hi, Option.map_some, Option.some.injEq] at hx
    exact hx
  rw [← hx2]
  exact hq i hi
theorem spans_of {v : Value} (h : Rz enc w base spare held 91 [v]) : ∃ l, RowsOf 2 SpanC w v l :=
  rowsOf_of Tryz.underlying91 (k := 2) (by kernel_rfl) (by omega) (of_decide_eq_true (by kernel_rfl)) h fun g hg => by
    obtain ⟨z0, e0, _⟩ := rz_int (enc := enc) (w := w) (base := base) (spare := spare) (held := held) (v := g 0) (by
      have this : Rz enc w base spare held 3 ((((List.range 2).map g).drop 0).take (Tryz.prog.cellsOf 3)) := (rz_field Tryz.underlying90 hg 0 _ rfl).2
      rw [show Tryz.prog.cellsOf 3 = 1 by kernel_rfl] at this
      exact this)
    obtain ⟨z1, e1, _⟩ := rz_int (enc := enc) (w := w) (base := base) (spare := spare) (held := held) (v := g 1) (by
      have this : Rz enc w base spare held 3 ((((List.range 2).map g).drop 1).take (Tryz.prog.cellsOf 3)) := (rz_field Tryz.underlying90 hg 1 _ rfl).2
      rw [show Tryz.prog.cellsOf 3 = 1 by kernel_rfl] at this
      exact this)
    exact ⟨(z0, z1), e0, e1⟩
theorem rels_of {v : Value} (h : Rz enc w base spare held 94 [v]) : ∃ l, RowsOf 4 RelC w v l :=
  rowsOf_of Tryz.underlying94 (k := 4) (by kernel_rfl) (by omega) (of_decide_eq_true (by kernel_rfl)) h fun g hg => by
    obtain ⟨z0, e0, _⟩ := rz_int (enc := enc) (w := w) (base := base) (spare := spare) (held := held) (v := g 0) (by
      have this : Rz enc w base spare held 3 ((((List.range 4).map g).drop 0).take (Tryz.prog.cellsOf 3)) := (rz_field Tryz.underlying93 hg 0 _ rfl).2
      rw [show Tryz.prog.cellsOf 3 = 1 by kernel_rfl] at this
      exact this)
    obtain ⟨z1, e1, _⟩ := rz_int (enc := enc) (w := w) (base := base) (spare := spare) (held := held) (v := g 1) (by
      have this : Rz enc w base spare held 3 ((((List.range 4).map g).drop 1).take (Tryz.prog.cellsOf 3)) := (rz_field Tryz.underlying93 hg 1 _ rfl).2
      rw [show Tryz.prog.cellsOf 3 = 1 by kernel_rfl] at this
      exact this)
    obtain ⟨b2, e2⟩ := rz_bool (enc := enc) (w := w) (base := base) (spare := spare) (held := held) (v := g 2) (by
      have this : Rz enc w base spare held 4 ((((List.range 4).map g).drop 2).take (Tryz.prog.cellsOf 4)) := (rz_field Tryz.underlying93 hg 2 _ rfl).2
      rw [show Tryz.prog.cellsOf 4 = 1 by kernel_rfl] at this
      exact this)
    obtain ⟨sp, e3⟩ := spans_of (enc := enc) (w := w) (base := base) (spare := spare) (held := held) (v := g 3) (by
      have this : Rz enc w base spare held 91 ((((List.range 4).map g).drop 3).take (Tryz.prog.cellsOf 91)) := (rz_field Tryz.underlying93 hg 3 _ rfl).2
      rw [show Tryz.prog.cellsOf 91 = 1 by kernel_rfl] at this
      exact this)
    exact ⟨⟨z0, z1, b2, sp⟩, e0, e1, e2, e3⟩
theorem conds_of {v : Value} (h : Rz enc w base spare held 78 [v]) : ∃ c, CondAt w v c :=
  rowsOf_of Tryz.underlying78 (k := 1) (by kernel_rfl) (by omega) (of_decide_eq_true (by kernel_rfl)) h fun g hg => rels_of (enc := enc) (w := w) (base := base) (spare := spare) (held := held) (v := g 0) hg
theorem rules_of {v : Value} (h : Rz enc w base spare held 22 [v]) : ∃ l, RulesAt w v l :=
  rowsOf_of Tryz.underlying22 (k := 2) (by kernel_rfl) (by omega) (of_decide_eq_true (by kernel_rfl)) h fun g hg => by
    obtain ⟨s, e0, _⟩ := rz_string (enc := enc) (w := w) (base := base) (spare := spare) (held := held) (v := g 0) (by
      have this : Rz enc w base spare held 9 ((((List.range 2).map g).drop 0).take (Tryz.prog.cellsOf 9)) := (rz_field Tryz.underlying80 hg 0 _ rfl).2
      rw [show Tryz.prog.cellsOf 9 = 1 by kernel_rfl] at this
      exact this)
    obtain ⟨c, e1⟩ := conds_of (enc := enc) (w := w) (base := base) (spare := spare) (held := held) (v := g 1) (by
      have this : Rz enc w base spare held 78 ((((List.range 2).map g).drop 1).take (Tryz.prog.cellsOf 78)) := (rz_field Tryz.underlying80 hg 1 _ rfl).2
      rw [show Tryz.prog.cellsOf 78 = 1 by kernel_rfl] at this
      exact this)
    exact ⟨(s, c), e0, e1⟩
theorem strs_of {v : Value} (h : Rz enc w base spare held 28 [v]) : ∃ l, RowsOf 1 StrC w v l :=
  rowsOf_of Tryz.underlying28 (k := 1) (by kernel_rfl) (by omega) (of_decide_eq_true (by kernel_rfl)) h fun g hg => by
    obtain ⟨s, e0, hs⟩ := rz_string (enc := enc) (w := w) (base := base) (spare := spare) (held := held) (v := g 0) hg
    exact ⟨s, e0, hs⟩
/-- a value, by its five cells -/
theorem val_of {g : Nat → Value} (hg : Rz enc w base spare held 46 ((List.range 5).map g)) : ∃ v, ValC w g v := by
  obtain ⟨s0, e0, h0⟩ := rz_string (enc := enc) (w := w) (base := base) (spare := spare) (held := held) (v := g 0) (by
    have this : Rz enc w base spare held 9 ((((List.range 5).map g).drop 0).take (Tryz.prog.cellsOf 9)) := (rz_field Tryz.underlying46 hg 0 _ rfl).2
    rw [show Tryz.prog.cellsOf 9 = 1 by kernel_rfl] at this
    exact this)
  obtain ⟨z1, e1, _⟩ := rz_int (enc := enc) (w := w) (base := base) (spare := spare) (held := held) (v := g 1) (by
    have this : Rz enc w base spare held 3 ((((List.range 5).map g).drop 1).take (Tryz.prog.cellsOf 3)) := (rz_field Tryz.underlying46 hg 1 _ rfl).2
    rw [show Tryz.prog.cellsOf 3 = 1 by kernel_rfl] at this
    exact this)
  obtain ⟨s2, e2, h2⟩ := rz_string (enc := enc) (w := w) (base := base) (spare := spare) (held := held) (v := g 2) (by
    have this : Rz enc w base spare held 9 ((((List.range 5).map g).drop 2).take (Tryz.prog.cellsOf 9)) := (rz_field Tryz.underlying46 hg 2 _ rfl).2
    rw [show Tryz.prog.cellsOf 9 = 1 by kernel_rfl] at this
    exact this)
  obtain ⟨z3, e3, _⟩ := rz_int (enc := enc) (w := w) (base := base) (spare := spare) (held := held) (v := g 3) (by
    have this : Rz enc w base spare held 3 ((((List.range 5).map g).drop 3).take (Tryz.prog.cellsOf 3)) := (rz_field Tryz.underlying46 hg 3 _ rfl).2
    rw [show Tryz.prog.cellsOf 3 = 1 by kernel_rfl] at this
    exact this)
  obtain ⟨l, e4⟩ := strs_of (enc := enc) (w := w) (base := base) (spare := spare) (held := held) (v := g 4) (by
    have this : Rz enc w base spare held 28 ((((List.range 5).map g).drop 4).take (Tryz.prog.cellsOf 28)) := (rz_field Tryz.underlying46 hg 4 _ rfl).2
    rw [show Tryz.prog.cellsOf 28 = 1 by kernel_rfl] at this
    exact this)
  exact ⟨⟨s0, z1, s2, z3, l⟩, e0, h0, e1, e2, h2, e3, e4⟩
theorem val_cells {cs : List Value} (h : Rz enc w base spare held 46 cs) : ∃ (g : Nat → Value) (v : Vl), cs = [g 0, g 1, g 2, g 3, g 4] ∧ ValC w g v := by
  have hl : cs.length = 5 := (rz_field Tryz.underlying46 h 0 _ rfl).1.trans (by kernel_rfl)
  match cs, hl with
  | [x0, x1, x2, x3, x4], _ =>
    obtain ⟨v, hv⟩ := val_of (enc := enc) (w := w) (base := base) (spare := spare) (held := held) (g := fun i => ([x0, x1, x2, x3, x4] : List Value).getD i undef) h
    exact ⟨_, v, rfl, hv⟩
/-- a question: a kind, and keys -/
theorem quest_cells {cs : List Value} (h : Rz enc w base spare held 55 cs) : ∃ (z : Int) (v : Value) (l : List ByteArray), cs = [.int .i64 z, v] ∧ RowsOf 1 StrC w v l := by
  have hl : cs.length = 2 := (rz_field Tryz.underlying55 h 0 _ rfl).1.trans (by kernel_rfl)
  match cs, hl with
  | [x0, x1], _ =>
    obtain ⟨z0, e0, _⟩ := rz_int (enc := enc) (w := w) (base := base) (spare := spare) (held := held) (v := x0) (by
      have this : Rz enc w base spare held 3 ((([x0, x1] : List Value).drop 0).take (Tryz.prog.cellsOf 3)) := (rz_field Tryz.underlying55 h 0 _ rfl).2
      rw [show Tryz.prog.cellsOf 3 = 1 by kernel_rfl] at this
      exact this)
    obtain ⟨l, e1⟩ := strs_of (enc := enc) (w := w) (base := base) (spare := spare) (held := held) (v := x1) (by
      have this : Rz enc w base spare held 28 ((([x0, x1] : List Value).drop 1).take (Tryz.prog.cellsOf 28)) := (rz_field Tryz.underlying55 h 1 _ rfl).2
      rw [show Tryz.prog.cellsOf 28 = 1 by kernel_rfl] at this
      exact this)
    exact ⟨z0, x1, l, by rw [e0], e1⟩
/-- a locale, by its sixteen cells; its third and fourth are rules -/
theorem locr_cells {cs : List Value} (h : Rz enc w base spare held 30 cs) : ∃ (x : Nat → Value) (a b : List (ByteArray × List (List Rel))), cs = (List.range 16).map x ∧ LocC w x a b := by
  have hl : cs.length = 16 := (rz_field Tryz.underlying30 h 0 _ rfl).1.trans (by kernel_rfl)
  match cs, hl with
  | [x0, x1, x2, x3, x4, x5, x6, x7, x8, x9, x10, x11, x12, x13, x14, x15], _ =>
    obtain ⟨a, r3⟩ := rules_of (enc := enc) (w := w) (base := base) (spare := spare) (held := held) (v := x3) (by
      have this : Rz enc w base spare held 22 ((([x0, x1, x2, x3, x4, x5, x6, x7, x8, x9, x10, x11, x12, x13, x14, x15] : List Value).drop 3).take (Tryz.prog.cellsOf 22)) := (rz_field Tryz.underlying30 h 3 _ rfl).2
      rw [show Tryz.prog.cellsOf 22 = 1 by kernel_rfl] at this
      exact this)
    obtain ⟨b, r4⟩ := rules_of (enc := enc) (w := w) (base := base) (spare := spare) (held := held) (v := x4) (by
      have this : Rz enc w base spare held 22 ((([x0, x1, x2, x3, x4, x5, x6, x7, x8, x9, x10, x11, x12, x13, x14, x15] : List Value).drop 4).take (Tryz.prog.cellsOf 22)) := (rz_field Tryz.underlying30 h 4 _ rfl).2
      rw [show Tryz.prog.cellsOf 22 = 1 by kernel_rfl] at this
      exact this)
    exact ⟨fun i => ([x0, x1, x2, x3, x4, x5, x6, x7, x8, x9, x10, x11, x12, x13, x14, x15] : List Value).getD i undef, a, b, rfl, r3, r4⟩
end
end Go.Proofs.YtadhblppeaamlaaGreatDoor
/- How arguments that are a part, or values, are read. -/
namespace Go.Proofs.YtadhblppeaamlaaGreatDoor
open Go.ChangeShapes Go.WideShapes Go.RowKit
instance : Inhabited Vl := ⟨⟨.empty, 0, .empty, 0, []⟩⟩
theorem PartsT.up : ∀ {a b : Nat} {w : World} {v : Value}, PartsT a w v → a ≤ b → PartsT b w v
  | 0, _, _, _, h, _ => h.elim
  | a + 1, 0, _, _, _, hb => absurd hb (by omega)
  | a + 1, b + 1, _, _, h, hb => by
    obtain ⟨ad, n, c, f, bl, off, h1, h2, h3⟩ := h.open
    refine ⟨ad, n, c, f, bl, off, h1, h2, fun i hi => ?_⟩
    obtain ⟨g0, g1, g2, g3, ⟨ad4, n4, c4, f4, b4, o4, k1, k2, k3, k4, k5, k6⟩, g5⟩ := h3 i hi
    exact ⟨g0, g1, g2, g3, ⟨ad4, n4, c4, f4, b4, o4, k1, k2, k3, k4, k5, fun j hj => ⟨(k6 j hj).1, PartsT.up (k6 j hj).2 (by omega)⟩⟩, PartsT.up g5 (by omega)⟩
section
variable {H : Type} {enc : TypeId × Value → H} {w : World} {base : Nat} {spare : Nat → Bool} {held : Bool}
/-- a value that reads as data of a type, of a bounded size -/
abbrev Rzs (enc : TypeId × Value → H) (w : World) (base : Nat) (spare : Nat → Bool) (held : Bool) (N : Nat) (t : TypeId) (cs : List Value) : Prop :=
  ∃ n x, DataW.trod enc Tryz.prog w base spare held n t cs = some x ∧ SizeOf.sizeOf x.1 ≤ N ∧ ∀ m ∈ x.1.weights Tryz.prog t, m ≤ reachBytes
theorem Rzs.rz {N : Nat} {t : TypeId} {cs : List Value} (h : Rzs enc w base spare held N t cs) : Rz enc w base spare held t cs := by
  obtain ⟨n, x, h1, _, h3⟩ := h
  exact ⟨n, x, h1, h3⟩
theorem Rz.rzs {t : TypeId} {cs : List Value} (h : Rz enc w base spare held t cs) : ∃ N, Rzs enc w base spare held N t cs := by
  obtain ⟨n, x, h1, h3⟩ := h
  exact ⟨_, n, x, h1, Nat.le_refl _, h3⟩
theorem rzs_field {N : Nat} {t : TypeId} {fs : Array Field} {cs : List Value} (ht : Tryz.prog.underlying t = some (.struct fs)) (h : Rzs enc w base spare held N t cs) (i : Nat) (f : Field) (hi : fs[i]? = some f) : ∃ M, N = M + 1 ∧ Rzs enc w base spare held M f.type ((cs.drop f.offset).take (Tryz.prog.cellsOf f.type)) := by
  obtain ⟨n, x, h, hs, hz⟩ := h
  obtain ⟨xs, m, _, hx0, hl, hx, hf⟩ := DataW.trod_struct ht h
  have h1 := hf i f hi
  have hlt : i < xs.length := by rw [hx]; exact (Array.getElem?_eq_some_iff.1 hi).1
  rw [List.getElem?_eq_getElem hlt] at h1
  have hsz : SizeOf.sizeOf (xs[i]'hlt).1 < SizeOf.sizeOf x.1 := by
    rw [hx0]
    have h2 : SizeOf.sizeOf (xs[i]'hlt).1 < SizeOf.sizeOf (xs.map (·.1)) := List.sizeOf_lt_of_mem (List.mem_map.2 ⟨_, List.getElem_mem hlt, rfl⟩)
    simp only [DataW.agg.sizeOf_spec]
    omega
  refine ⟨N - 1, by omega, m, _, h1, by omega, fun q hq => ?_⟩
  subst hx0
  simp only [DataW.weights, ht] at hz
  exact hz q (DataW.weights_mem_each (j := i) (by simp [hi]) (by simp [List.getElem?_eq_getElem hlt]) q hq)
theorem rzs_rows {N : Nat} {t e : TypeId} {k : Nat} {v : Value} (ht : Tryz.prog.underlying t = some (.slice e)) (hk : Tryz.prog.cellsOf e = k) (hk0 : 0 < k) (h : Rzs enc w base spare held N t [v]) :
    ∃ ad n c, ∃ f : Nat → Nat → Value, ∃ b off, v = .slice ad n c ∧ Rw w ad n k f b off ∧ (ad = none → c = 0) ∧ n ≤ c ∧ n * Tryz.prog.bytesOf e ≤ reachBytes ∧ ∀ i, i < n → ∃ M, N = M + 1 ∧ Rzs enc w base spare held M e ((List.range k).map (f i)) := by
  have hcap := fun ad n c (e : v = .slice ad n c) => rz_cap (ad := ad) (n := n) (c := c) ht (by rw [← e]; exact h.rz)
  obtain ⟨fu, x, h, hs, hz⟩ := h
  rcases Go.Deep.open_slice ht h with ⟨hcs, _⟩ | ⟨a, len, cap, m, n, D, Pl, hcs, _, hl, hm, hmm, hxe, hf⟩
  · injection hcs with hcs
    subst hcs
    exact ⟨none, 0, 0, fun _ _ => undef, 0, 0, rfl, ⟨Nat.zero_le _, fun h => absurd rfl h, fun i j hi => absurd hi (Nat.not_lt_zero _)⟩, fun _ => rfl, Nat.le_refl _, by rw [Nat.zero_mul]; exact Nat.zero_le _, fun i hi => absurd hi (Nat.not_lt_zero _)⟩
  · injection hcs with hcs
    subst hcs
    subst hxe
    have hsz : ∀ i, i < len → SizeOf.sizeOf (D i) < N := fun i hi => by
      have h2 : SizeOf.sizeOf (D i) < SizeOf.sizeOf ((List.range len).map D) := List.sizeOf_lt_of_mem (List.mem_map.2 ⟨i, List.mem_range.2 hi, rfl⟩)
      simp only [DataW.slice.sizeOf_spec] at hs
      omega
    simp only [DataW.weights, ht, List.mem_cons, List.mem_append] at hz
    have hlm : len ≤ m := by rw [hmm]; split <;> omega
    have hzl : len * Tryz.prog.bytesOf e ≤ reachBytes := by
      have := hz _ (.inl rfl)
      simp only [List.length_map, List.length_range] at this
      exact Nat.le_trans (Nat.mul_le_mul_right _ (by omega)) this
    have hze : ∀ i, i < len → ∀ q ∈ (D i).weights Tryz.prog e, q ≤ reachBytes := fun i hi q hq => hz q (.inr (.inl (weightsAll_mem (List.mem_map.2 ⟨i, List.mem_range.2 hi, rfl⟩) q hq)))
    rw [hk] at hf
    have each : ∀ i, i < len → ∃ g : Nat → Value, (∀ j, j < k → w.cell? (a.add (i * k + j)) = some (g j)) ∧ ∃ M, N = M + 1 ∧ Rzs enc w base spare held M e ((List.range k).map g) := fun i hi => by
      obtain ⟨cs', h1, h2⟩ := hf i (by omega)
      obtain ⟨_, hlen, hcell⟩ := World.cells?_some h1
      have hc : (List.range k).map (fun j => cs'.getD j undef) = cs' := by
        apply List.ext_getElem
        · simp [hlen]
        · intro j h1 h2
          simp [List.getD, List.getElem?_eq_getElem h2]
      have hsi := hsz i hi
      refine ⟨fun j => cs'.getD j undef, fun j hj => ?_, N - 1, by omega, _, _, by rw [hc]; exact h2, by show SizeOf.sizeOf (D i) ≤ _; omega, hze i hi⟩
      have := hcell j hj
      rw [Go.Deep.add_add] at this
      rw [this]
      simp [List.getD, List.getElem?_eq_getElem (show j < cs'.length by omega)]
    obtain ⟨f, hf2⟩ := Go.Deep.choose_lt each
    by_cases h0 : len = 0
    · subst h0
      exact ⟨some a, 0, cap, f, 0, 0, rfl, ⟨Nat.zero_le _, fun h => absurd rfl h, fun i j hi => absurd hi (Nat.not_lt_zero _)⟩, fun h => (by cases h), hcap _ _ _ rfl, hzl, fun i hi => absurd hi (Nat.not_lt_zero _)⟩
    · have ha := spot_of_cell' (by have := (hf2 0 (by omega)).1 0 hk0; rwa [Nat.zero_mul, Nat.zero_add] at this)
      have had : ∀ j, a.add j = ⟨a.block, a.off + j, none⟩ := fun j => by
        conv => lhs; rw [ha]
        unfold Addr.add
        split
        · rename_i h; subst h; rfl
        · rfl
      refine ⟨some a, len, cap, f, a.block, a.off, rfl, ⟨by unfold maxLen at hm; omega, fun _ => by rw [← ha], fun i j hi hj => ?_⟩, fun h => (by cases h), hcap _ _ _ rfl, hzl, fun i hi => (hf2 i hi).2⟩
      have := (hf2 i hi).1 j hj
      rw [had] at this
      rw [Nat.add_assoc]
      exact this
theorem strM_of {v : Value} (h : Rz enc w base spare held 9 [v]) : StrM v := by
  obtain ⟨s, e, hs⟩ := rz_string h
  exact ⟨s, e, Nat.le_trans hs (by decide)⟩
theorem caseBytes : Tryz.prog.bytesOf 44 = 40 := by kernel_rfl
theorem parts_of : ∀ (N : Nat) (v : Value), Rzs enc w base spare held N 32 [v] → PartsT N w v := by
  intro N
  induction N using Nat.strongRecOn with
  | _ N ih =>
    intro v h
    match N, h with
    | 0, h =>
      obtain ⟨_, x, _, hs, _⟩ := h
      exfalso
      cases hx : x.1 <;> rw [hx] at hs <;> simp at hs
    | N + 1, h =>
      obtain ⟨ad, n, c, f, b, off, hv, hr, hz, hc, hl, he⟩ := rzs_rows Tryz.underlying32 (k := 6) (by kernel_rfl) (by omega) h
      refine ⟨ad, n, c, f, b, off, hv, hr, fun i hi => ?_⟩
      obtain ⟨M, hM, hp⟩ := he i hi
      obtain rfl : N = M := by omega
      obtain ⟨z0, e0, _⟩ := rz_int (enc := enc) (w := w) (base := base) (spare := spare) (held := held) (v := f i 0) (by
        have this : Rz enc w base spare held 3 ((((List.range 6).map (f i)).drop 0).take (Tryz.prog.cellsOf 3)) := (rz_field Tryz.underlying34 hp.rz 0 _ rfl).2
        rw [show Tryz.prog.cellsOf 3 = 1 by kernel_rfl] at this
        exact this)
      have s1 := strM_of (enc := enc) (w := w) (base := base) (spare := spare) (held := held) (v := f i 1) (by
        have this : Rz enc w base spare held 9 ((((List.range 6).map (f i)).drop 1).take (Tryz.prog.cellsOf 9)) := (rz_field Tryz.underlying34 hp.rz 1 _ rfl).2
        rw [show Tryz.prog.cellsOf 9 = 1 by kernel_rfl] at this
        exact this)
      have s2 := strM_of (enc := enc) (w := w) (base := base) (spare := spare) (held := held) (v := f i 2) (by
        have this : Rz enc w base spare held 9 ((((List.range 6).map (f i)).drop 2).take (Tryz.prog.cellsOf 9)) := (rz_field Tryz.underlying34 hp.rz 2 _ rfl).2
        rw [show Tryz.prog.cellsOf 9 = 1 by kernel_rfl] at this
        exact this)
      have s3 := strM_of (enc := enc) (w := w) (base := base) (spare := spare) (held := held) (v := f i 3) (by
        have this : Rz enc w base spare held 9 ((((List.range 6).map (f i)).drop 3).take (Tryz.prog.cellsOf 9)) := (rz_field Tryz.underlying34 hp.rz 3 _ rfl).2
        rw [show Tryz.prog.cellsOf 9 = 1 by kernel_rfl] at this
        exact this)
      obtain ⟨M5, hM5, h5⟩ := rzs_field Tryz.underlying34 hp 5 _ rfl
      have h5' : Rzs enc w base spare held M5 32 [f i 5] := by
        have this : Rzs enc w base spare held M5 32 ((((List.range 6).map (f i)).drop 5).take (Tryz.prog.cellsOf 32)) := h5
        rw [show Tryz.prog.cellsOf 32 = 1 by kernel_rfl] at this
        exact this
      obtain ⟨M4, hM4, h4⟩ := rzs_field Tryz.underlying34 hp 4 _ rfl
      have h4' : Rzs enc w base spare held M4 31 [f i 4] := by
        have this : Rzs enc w base spare held M4 31 ((((List.range 6).map (f i)).drop 4).take (Tryz.prog.cellsOf 31)) := h4
        rw [show Tryz.prog.cellsOf 31 = 1 by kernel_rfl] at this
        exact this
      refine ⟨⟨z0, e0⟩, s1, s2, s3, ?_, (ih M5 (by omega) _ h5').up (by omega)⟩
      obtain ⟨ad4, n4, c4, f4, b4, off4, hv4, hr4, hz4, hc4, hl4, he4⟩ := rzs_rows Tryz.underlying31 (k := 2) (by kernel_rfl) (by omega) h4'
      rw [caseBytes, show reachBytes = 140737488351232 from rfl] at hl4
      refine ⟨ad4, n4, c4, f4, b4, off4, hv4, hr4, hz4, hc4, hl4, fun j hj => ?_⟩
      obtain ⟨M6, hM6, h6⟩ := he4 j hj
      have t0 := strM_of (enc := enc) (w := w) (base := base) (spare := spare) (held := held) (v := f4 j 0) (by
        have this : Rz enc w base spare held 9 ((((List.range 2).map (f4 j)).drop 0).take (Tryz.prog.cellsOf 9)) := (rz_field Tryz.underlying44 h6.rz 0 _ rfl).2
        rw [show Tryz.prog.cellsOf 9 = 1 by kernel_rfl] at this
        exact this)
      obtain ⟨M7, hM7, h7⟩ := rzs_field Tryz.underlying44 h6 1 _ rfl
      have h7' : Rzs enc w base spare held M7 32 [f4 j 1] := by
        have this : Rzs enc w base spare held M7 32 ((((List.range 2).map (f4 j)).drop 1).take (Tryz.prog.cellsOf 32)) := h7
        rw [show Tryz.prog.cellsOf 32 = 1 by kernel_rfl] at this
        exact this
      exact ⟨t0, (ih M7 (by omega) _ h7').up (by omega)⟩
/-- a part, by its six cells -/
theorem part_cells {cs : List Value} (h : Rz enc w base spare held 34 cs) : ∃ (p : Nat → Value) (d : Nat) (kind : Int) (name : ByteArray) (keys : List ByteArray), cs = [p 0, p 1, p 2, p 3, p 4, p 5] ∧ PartK d w p kind name keys := by
  have hl : cs.length = 6 := (rz_field Tryz.underlying34 h 0 _ rfl).1.trans (by kernel_rfl)
  match cs, hl with
  | [x0, x1, x2, x3, x4, x5], _ =>
    obtain ⟨N, hN⟩ := h.rzs
    -- one part, read as the elements of a list are
    obtain ⟨z0, e0, _⟩ := rz_int (enc := enc) (w := w) (base := base) (spare := spare) (held := held) (v := x0) (by
      have this : Rz enc w base spare held 3 ((([x0, x1, x2, x3, x4, x5] : List Value).drop 0).take (Tryz.prog.cellsOf 3)) := (rz_field Tryz.underlying34 h 0 _ rfl).2
      rw [show Tryz.prog.cellsOf 3 = 1 by kernel_rfl] at this
      exact this)
    have s1 := strM_of (enc := enc) (w := w) (base := base) (spare := spare) (held := held) (v := x1) (by
      have this : Rz enc w base spare held 9 ((([x0, x1, x2, x3, x4, x5] : List Value).drop 1).take (Tryz.prog.cellsOf 9)) := (rz_field Tryz.underlying34 h 1 _ rfl).2
      rw [show Tryz.prog.cellsOf 9 = 1 by kernel_rfl] at this
      exact this)
    have s2 := strM_of (enc := enc) (w := w) (base := base) (spare := spare) (held := held) (v := x2) (by
      have this : Rz enc w base spare held 9 ((([x0, x1, x2, x3, x4, x5] : List Value).drop 2).take (Tryz.prog.cellsOf 9)) := (rz_field Tryz.underlying34 h 2 _ rfl).2
      rw [show Tryz.prog.cellsOf 9 = 1 by kernel_rfl] at this
      exact this)
    have s3 := strM_of (enc := enc) (w := w) (base := base) (spare := spare) (held := held) (v := x3) (by
      have this : Rz enc w base spare held 9 ((([x0, x1, x2, x3, x4, x5] : List Value).drop 3).take (Tryz.prog.cellsOf 9)) := (rz_field Tryz.underlying34 h 3 _ rfl).2
      rw [show Tryz.prog.cellsOf 9 = 1 by kernel_rfl] at this
      exact this)
    obtain ⟨M5, _, h5⟩ := rzs_field Tryz.underlying34 hN 5 _ rfl
    have h5' : Rzs enc w base spare held M5 32 [x5] := by
      have this : Rzs enc w base spare held M5 32 ((([x0, x1, x2, x3, x4, x5] : List Value).drop 5).take (Tryz.prog.cellsOf 32)) := h5
      rw [show Tryz.prog.cellsOf 32 = 1 by kernel_rfl] at this
      exact this
    obtain ⟨M4, _, h4⟩ := rzs_field Tryz.underlying34 hN 4 _ rfl
    have h4' : Rzs enc w base spare held M4 31 [x4] := by
      have this : Rzs enc w base spare held M4 31 ((([x0, x1, x2, x3, x4, x5] : List Value).drop 4).take (Tryz.prog.cellsOf 31)) := h4
      rw [show Tryz.prog.cellsOf 31 = 1 by kernel_rfl] at this
      exact this
    have hcases : CasesT (PartsT (M4 + M5)) w x4 := by
      obtain ⟨ad4, n4, c4, f4, b4, off4, hv4, hr4, hz4, hc4, hl4, he4⟩ := rzs_rows Tryz.underlying31 (k := 2) (by kernel_rfl) (by omega) h4'
      rw [caseBytes, show reachBytes = 140737488351232 from rfl] at hl4
      refine ⟨ad4, n4, c4, f4, b4, off4, hv4, hr4, hz4, hc4, hl4, fun j hj => ?_⟩
      obtain ⟨M6, hM6, h6⟩ := he4 j hj
      have t0 := strM_of (enc := enc) (w := w) (base := base) (spare := spare) (held := held) (v := f4 j 0) (by
        have this : Rz enc w base spare held 9 ((((List.range 2).map (f4 j)).drop 0).take (Tryz.prog.cellsOf 9)) := (rz_field Tryz.underlying44 h6.rz 0 _ rfl).2
        rw [show Tryz.prog.cellsOf 9 = 1 by kernel_rfl] at this
        exact this)
      obtain ⟨M7, hM7, h7⟩ := rzs_field Tryz.underlying44 h6 1 _ rfl
      have h7' : Rzs enc w base spare held M7 32 [f4 j 1] := by
        have this : Rzs enc w base spare held M7 32 ((((List.range 2).map (f4 j)).drop 1).take (Tryz.prog.cellsOf 32)) := h7
        rw [show Tryz.prog.cellsOf 32 = 1 by kernel_rfl] at this
        exact this
      exact ⟨t0, (parts_of M7 _ h7').up (by omega)⟩
    have hpc : PartC (PartsT (M4 + M5)) w (fun i => ([x0, x1, x2, x3, x4, x5] : List Value).getD i undef) := ⟨⟨z0, e0⟩, s1, s2, s3, hcases, (parts_of M5 _ h5').up (by omega)⟩
    obtain ⟨kind, name, keys, hk⟩ := part_k hpc
    exact ⟨_, _, kind, name, keys, rfl, hk⟩
/-- values -/
theorem vals_of {v : Value} (h : Rz enc w base spare held 35 [v]) : ∃ l, ValsAt w v l :=
  rowsOf_of Tryz.underlying35 (k := 5) (by kernel_rfl) (by omega) (of_decide_eq_true (by kernel_rfl)) h fun _ hg => val_of hg
end
end Go.Proofs.YtadhblppeaamlaaGreatDoor
/- How an argument that is an array of two strings is read. -/
namespace Go.Proofs.YtadhblppeaamlaaGreatDoor
open Go.ChangeShapes Go.WideShapes Go.RowKit
set_option maxRecDepth 100000 in
theorem okWide_two {w : World} {r : Reach} {base : Nat} {v : Value} (h : Value.okWide Tryz.prog w r base 47 v) : ∃ cs, v = .agg cs ∧ cs.size = Tryz.prog.cellsOf 47 := by
  simp only [Value.okWide, Tryz.underlying47] at h
  obtain ⟨cs, h1, h2, _⟩ := h
  exact ⟨cs, h1, h2⟩
section
variable {H : Type} {enc : TypeId × Value → H} {w : World} {base : Nat} {spare : Nat → Bool} {held : Bool}
theorem two_cells {cs : List Value} (h : Rz enc w base spare held 47 cs) : ∃ s0 s1 : ByteArray, cs = [.string s0, .string s1] ∧ s0.size ≤ 140737488351232 ∧ s1.size ≤ 140737488351232 := by
  obtain ⟨fu, x, h, hz⟩ := h
  obtain ⟨xs, m, _, hx0, hl, hx, hf⟩ := DataW.trod_array Tryz.underlying47 h
  rw [show Tryz.prog.cellsOf 47 = 2 by kernel_rfl] at hl
  rw [show Tryz.prog.cellsOf 9 = 1 by kernel_rfl] at hf
  subst hx0
  simp only [DataW.weights, Tryz.underlying47] at hz
  match cs, hl with
  | [x0, x1], _ =>
    have each : ∀ (i : Nat) (hi : i < 2) (v : Value), (([x0, x1] : List Value).drop (i * 1)).take 1 = [v] → ∃ s : ByteArray, v = .string s ∧ s.size ≤ 140737488351232 := fun i hi v e => by
      have h1 := hf i hi
      rw [e] at h1
      have hlt : i < xs.length := by omega
      rw [List.getElem?_eq_getElem hlt] at h1
      obtain ⟨s, e2, hs⟩ := rz_string (enc := enc) (w := w) (base := base) (spare := spare) (held := held) (v := v) ⟨m, _, h1, fun q hq => hz q (weightsAll_mem (List.mem_map.2 ⟨_, List.getElem_mem hlt, rfl⟩) q hq)⟩
      exact ⟨s, e2, hs⟩
    obtain ⟨s0, e0, h0⟩ := each 0 (by omega) x0 rfl
    obtain ⟨s1, e1, h1⟩ := each 1 (by omega) x1 rfl
    exact ⟨s0, s1, by rw [e0, e1], h0, h1⟩
end
end Go.Proofs.YtadhblppeaamlaaGreatDoor
