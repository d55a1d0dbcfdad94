/- Tables in memory: slices of structs, whatever the number of their cells. -/
import Derived.Test.YtkkggpahanddnaaGreatDoorQ01
import Derived.Test.YtkkggpahanddnaaGreatDoorQ02
import Derived.Test.YtkkggpahanddnaaGreatDoorQ05
import Derived.Deep.Slices
import Derived.ChangeArms
import Derived.SizedLaws
import Derived.Test.YtkkggpahanddnaaGreatDoorQ04
namespace Go.Proofs.YtkkggpahanddnaaGreatDoor
open Go.RowKit

/-- a slice of n elements of k cells each, from block b, offset off on: cell j of element i holds f i j -/
structure Rw (w : World) (ad : Option Addr) (n k : Nat) (f : Nat → Nat → Value) (b off : Nat) : Prop where
  max : n ≤ 9223372036854775807
  adr : n ≠ 0 → ad = some ⟨b, off, none⟩
  cell : ∀ i j, i < n → j < k → w.cell? ⟨b, off + i * k + j, none⟩ = some (f i j)
theorem Rw.block {w : World} {ad : Option Addr} {n k : Nat} {f b off} (h : Rw w ad n k f b off) (hn : n ≠ 0) (hk : k ≠ 0) : b < w.heap.size :=
  World.block_lt_of_cell? w _ (h.cell 0 0 (by omega) (by omega))
theorem Rw.below {w w' : World} {ad : Option Addr} {n k : Nat} {f b off} (h : Rw w ad n k f b off) (hb : Below w.heap.size w w') : Rw w' ad n k f b off :=
  ⟨h.max, h.adr, fun i j hi hj => by rw [hb.cell (p := ⟨b, off + i * k + j, none⟩) (h.block (by omega) (by omega))]; exact h.cell i j hi hj⟩
theorem Rw.ix {P : Program} {w : World} {ad : Option Addr} {n k : Nat} {f b off} (h : Rw w ad n k f b off) (T E : TypeId) (hT : P.underlying T = some (.slice E)) (hE : P.cellsOf E = k) (hk : 0 < k) {i : Nat} (hi : i < n) (c : Nat) (W : World) :
    (Instr.indexAt T (.slice ad n c) (.int .i64 (i : Int))).run P W = .ok (.pointer (some ⟨b, off + i * k, none⟩)) W := by
  rw [h.adr (by omega)]
  have hel : P.elem T = E := by simp [Program.elem, hT]
  rw [run_indexAt_slice W T _ n c .i64 i (by rw [hel]; exact hT), hel, if_pos (by omega)]
  have hs : (sizeOf E).run P W = .ok k W := by
    unfold Program.cellsOf at hE
    cases hi' : P.info? E with
    | none => simp [hi'] at hE; omega
    | some q => simp [hi'] at hE; simp [sizeOf, typeInfo, hi', hE]
  rw [hs]
  simp only [Result.andThen, Addr.add]
  by_cases h0 : i * k = 0
  · simp [h0]
  · simp [h0]
/-- a slice of structs of k strings -/
def StrRows (w : World) (k : Nat) (v : Value) : Prop := ∃ ad n c, ∃ g : Nat → Nat → ByteArray, ∃ b off, v = .slice ad n c ∧ Rw w ad n k (fun i j => .string (g i j)) b off
/-- a slice of relations: its fourth field is a slice -/
def RelRows (w : World) (v : Value) : Prop := ∃ ad n c f b off, v = .slice ad n c ∧ Rw w ad n 4 f b off ∧ ∀ i, i < n → ∃ a m c', f i 3 = .slice a m c' ∧ m ≤ 9223372036854775807
/-- a condition -/
def CondOk (w : World) (v : Value) : Prop := ∃ ad n c f b off, v = .slice ad n c ∧ Rw w ad n 1 f b off ∧ ∀ i, i < n → RelRows w (f i 0)
/-- a slice of rules -/
def RuleRows (w : World) (v : Value) : Prop := ∃ ad n c f b off, v = .slice ad n c ∧ Rw w ad n 2 f b off ∧ (ad = none → c = 0) ∧ ∀ i, i < n → (∃ s, f i 0 = .string s) ∧ CondOk w (f i 1)
theorem StrRows.below {w w' : World} {k : Nat} {v : Value} (h : StrRows w k v) (hb : Below w.heap.size w w') : StrRows w' k v := by
  obtain ⟨ad, n, c, g, b, off, h1, h2⟩ := h
  exact ⟨ad, n, c, g, b, off, h1, h2.below hb⟩
theorem RelRows.below {w w' : World} {v : Value} (h : RelRows w v) (hb : Below w.heap.size w w') : RelRows w' v := by
  obtain ⟨ad, n, c, f, b, off, h1, h2, h3⟩ := h
  exact ⟨ad, n, c, f, b, off, h1, h2.below hb, h3⟩
theorem CondOk.below {w w' : World} {v : Value} (h : CondOk w v) (hb : Below w.heap.size w w') : CondOk w' v := by
  obtain ⟨ad, n, c, f, b, off, h1, h2, h3⟩ := h
  exact ⟨ad, n, c, f, b, off, h1, h2.below hb, fun i hi => (h3 i hi).below hb⟩
theorem RuleRows.below {w w' : World} {v : Value} (h : RuleRows w v) (hb : Below w.heap.size w w') : RuleRows w' v := by
  obtain ⟨ad, n, c, f, b, off, h1, h2, h3, h4⟩ := h
  exact ⟨ad, n, c, f, b, off, h1, h2.below hb, h3, fun i hi => ⟨(h4 i hi).1, (h4 i hi).2.below hb⟩⟩
/-- a locale's sixteen cells -/
structure LocOk (w : World) (x : Nat → Value) : Prop where
  s0 : ∃ s, x 0 = .string s
  s1 : ∃ s, x 1 = .string s
  s2 : ∃ s, x 2 = .string s
  r3 : RuleRows w (x 3)
  r4 : RuleRows w (x 4)
  s5 : ∃ s, x 5 = .string s
  s6 : ∃ s, x 6 = .string s
  s7 : ∃ s, x 7 = .string s
  s8 : ∃ s, x 8 = .string s
  i9 : ∃ z, x 9 = .int .i64 z
  i10 : ∃ z, x 10 = .int .i64 z
  l11 : StrRows w 5 (x 11)
  u12 : StrRows w 3 (x 12)
  d13 : StrRows w 2 (x 13)
  m14 : StrRows w 1 (x 14)
  m15 : StrRows w 1 (x 15)
theorem LocOk.below {w w' : World} {x : Nat → Value} (h : LocOk w x) (hb : Below w.heap.size w w') : LocOk w' x :=
  ⟨h.s0, h.s1, h.s2, h.r3.below hb, h.r4.below hb, h.s5, h.s6, h.s7, h.s8, h.i9, h.i10, h.l11.below hb, h.u12.below hb, h.d13.below hb, h.m14.below hb, h.m15.below hb⟩
/-- a table: its locales, aliases and near entries -/
structure TabOk (w : World) (v0 v1 v2 : Value) : Prop where
  locs : ∃ ad n c f b off, v0 = .slice ad n c ∧ Rw w ad n 16 f b off ∧ ∀ i, i < n → LocOk w (f i)
  als : StrRows w 2 v1
  nears : ∃ ad n c f b off, v2 = .slice ad n c ∧ Rw w ad n 3 f b off ∧ ∀ i, i < n → (∃ s, f i 0 = .string s) ∧ (∃ s, f i 1 = .string s)
theorem TabOk.below {w w' : World} {v0 v1 v2 : Value} (h : TabOk w v0 v1 v2) (hb : Below w.heap.size w w') : TabOk w' v0 v1 v2 := by
  obtain ⟨⟨ad, n, c, f, b, off, h1, h2, h3⟩, h4, ⟨ad', n', c', f', b', off', h5, h6, h7⟩⟩ := h
  exact ⟨⟨ad, n, c, f, b, off, h1, h2.below hb, fun i hi => (h3 i hi).below hb⟩, h4.below hb, ⟨ad', n', c', f', b', off', h5, h6.below hb, h7⟩⟩
/-- some integer, and nothing that was there has changed -/
def SomeInt (w : World) (e : Ending) (w' : World) : Prop := ∃ z : Int, e = .returned (.int .i64 z) ∧ Below w.heap.size w w'
/-- some integer, the world as it was -/
def QInt (w : World) (e : Ending) (w' : World) : Prop := ∃ z : Int, e = .returned (.int .i64 z) ∧ w = w'
/-- some truth value, the world as it was -/
def QBool (w : World) (e : Ending) (w' : World) : Prop := ∃ b : Bool, e = .returned (.bool b) ∧ w = w'
/-- some truth value, and nothing that was there has changed -/
def SomeBool (w : World) (e : Ending) (w' : World) : Prop := ∃ b : Bool, e = .returned (.bool b) ∧ Below w.heap.size w w'
end Go.Proofs.YtkkggpahanddnaaGreatDoor
/- How an argument that is a struct, or a slice of structs, is read; and that what it holds lies within the reach. -/
namespace Go.Proofs.YtkkggpahanddnaaGreatDoor
open Go.ChangeShapes Go.WideShapes Go.RowKit
section
variable {H : Type} {enc : TypeId × Value → H} {w : World} {base : Nat} {spare : Nat → Bool} {held : Bool}
/-- a value that reads as data of a type, each of its strings and slices within the reach -/
abbrev Rz (enc : TypeId × Value → H) (w : World) (base : Nat) (spare : Nat → Bool) (held : Bool) (t : TypeId) (cs : List Value) : Prop :=
  ∃ n x, DataW.trod enc Tryz.prog w base spare held n t cs = some x ∧ ∀ m ∈ x.1.weights Tryz.prog t, m ≤ reachBytes
theorem rz_of {n : Nat} {t : TypeId} {cs : List Value} {x : DataW H × List MemPlace} (h : DataW.trod enc Tryz.prog w base spare held n t cs = some x) (hz : ∀ m ∈ x.1.weights Tryz.prog t, m ≤ reachBytes) : Rz enc w base spare held t cs := ⟨n, x, h, hz⟩
theorem rz_sized {ts : List TypeId} {ds : List (DataW H)} {n : Nat} {t : TypeId} {cs : List Value} {x : DataW H × List MemPlace} (h : DataW.trod enc Tryz.prog w base spare held n t cs = some x)
    (hsz : (DataW.weightsEach Tryz.prog ts ds).all (· ≤ reachBytes) = true) (j : Nat) (ht : ts[j]? = some t) (hd : ds[j]? = some x.1) : Rz enc w base spare held t cs :=
  ⟨n, x, h, fun m hm => by simpa using List.all_eq_true.1 hsz _ (DataW.weights_mem_each ht hd m hm)⟩
theorem spot_of_cell' {W : World} {a : Addr} {v : Value} (h : W.cell? (a.add 0) = some v) : a = ⟨a.block, a.off, none⟩ := by
  have hs : a.spot = none := by simpa [Addr.add] using World.cell?_spot h
  cases a
  simp at hs
  simp [hs]
theorem weightsAll_mem {P : Program} {e : TypeId} : ∀ {l : List (DataW H)} {d : DataW H}, d ∈ l → ∀ m ∈ d.weights P e, m ∈ DataW.weightsAll P e l
  | d0 :: r, d, h, m, hm => by
    simp only [DataW.weightsAll, List.mem_append]
    rcases List.mem_cons.1 h with h | h
    · subst h; exact .inl hm
    · exact .inr (weightsAll_mem h m hm)
theorem rz_rows {t e : TypeId} {k : Nat} {v : Value} (ht : Tryz.prog.underlying t = some (.slice e)) (hk : Tryz.prog.cellsOf e = k) (hk0 : 0 < k) (h : Rz enc w base spare held t [v]) :
    ∃ ad n c, ∃ f : Nat → Nat → Value, ∃ b off, v = .slice ad n c ∧ Rw w ad n k f b off ∧ (ad = none → c = 0) ∧ n * Tryz.prog.bytesOf e ≤ reachBytes ∧ ∀ i, i < n → Rz enc w base spare held e ((List.range k).map (f i)) := by
  obtain ⟨fu, x, h, hz⟩ := h
  rcases Go.Deep.open_slice ht h with ⟨hcs, _⟩ | ⟨a, len, cap, m, n, D, Pl, hcs, _, hl, hm, hmm, hxe, hf⟩
  · injection hcs with hcs
    subst hcs
    exact ⟨none, 0, 0, fun _ _ => undef, 0, 0, rfl, ⟨Nat.zero_le _, fun h => absurd rfl h, fun i j hi => absurd hi (Nat.not_lt_zero _)⟩, fun _ => rfl, by rw [Nat.zero_mul]; exact Nat.zero_le _, fun i hi => absurd hi (Nat.not_lt_zero _)⟩
  · injection hcs with hcs
    subst hcs
    subst hxe
    simp only [DataW.weights, ht, List.mem_cons, List.mem_append] at hz
    have hlm : len ≤ m := by rw [hmm]; split <;> omega
    have hzl : len * Tryz.prog.bytesOf e ≤ reachBytes := by
      have := hz _ (.inl rfl)
      simp only [List.length_map, List.length_range] at this
      exact Nat.le_trans (Nat.mul_le_mul_right _ (by omega)) this
    have hze : ∀ i, i < len → ∀ q ∈ (D i).weights Tryz.prog e, q ≤ reachBytes := fun i hi q hq => hz q (.inr (.inl (weightsAll_mem (List.mem_map.2 ⟨i, List.mem_range.2 hi, rfl⟩) q hq)))
    rw [hk] at hf
    have each : ∀ i, i < len → ∃ g : Nat → Value, (∀ j, j < k → w.cell? (a.add (i * k + j)) = some (g j)) ∧ Rz enc w base spare held e ((List.range k).map g) := fun i hi => by
      obtain ⟨cs', h1, h2⟩ := hf i (by omega)
      obtain ⟨_, hlen, hcell⟩ := World.cells?_some h1
      have hc : (List.range k).map (fun j => cs'.getD j undef) = cs' := by
        apply List.ext_getElem
        · simp [hlen]
        · intro j h1 h2
          simp [List.getD, List.getElem?_eq_getElem h2]
      refine ⟨fun j => cs'.getD j undef, fun j hj => ?_, _, _, by rw [hc]; exact h2, hze i hi⟩
      have := hcell j hj
      rw [Go.Deep.add_add] at this
      rw [this]
      simp [List.getD, List.getElem?_eq_getElem (show j < cs'.length by omega)]
    obtain ⟨f, hf2⟩ := Go.Deep.choose_lt each
    by_cases h0 : len = 0
    · subst h0
      exact ⟨some a, 0, cap, f, 0, 0, rfl, ⟨Nat.zero_le _, fun h => absurd rfl h, fun i j hi => absurd hi (Nat.not_lt_zero _)⟩, fun h => (by cases h), hzl, fun i hi => absurd hi (Nat.not_lt_zero _)⟩
    · have ha := spot_of_cell' (by have := (hf2 0 (by omega)).1 0 hk0; rwa [Nat.zero_mul, Nat.zero_add] at this)
      have had : ∀ j, a.add j = ⟨a.block, a.off + j, none⟩ := fun j => by
        conv => lhs; rw [ha]
        unfold Addr.add
        split
        · rename_i h; subst h; rfl
        · rfl
      refine ⟨some a, len, cap, f, a.block, a.off, rfl, ⟨by unfold maxLen at hm; omega, fun _ => by rw [← ha], fun i j hi hj => ?_⟩, fun h => (by cases h), hzl, fun i hi => (hf2 i hi).2⟩
      have := (hf2 i hi).1 j hj
      rw [had] at this
      rw [Nat.add_assoc]
      exact this
theorem rz_string {v : Value} (h : Rz enc w base spare held 9 [v]) : ∃ s, v = .string s ∧ s.size ≤ reachBytes := by
  obtain ⟨n, x, h, hz⟩ := h
  obtain ⟨s, e, hx, _⟩ := DataW.trod_string Tryz.underlying9 h
  injection e with e
  refine ⟨s, e, ?_⟩
  rw [hx] at hz
  simp only [DataW.weights, List.mem_singleton] at hz
  have := hz _ rfl
  simpa using this
theorem rz_int {v : Value} (h : Rz enc w base spare held 3 [v]) : ∃ z : Int, v = .int .i64 z ∧ -9223372036854775808 ≤ z ∧ z ≤ 9223372036854775807 := by
  obtain ⟨n, x, h, _⟩ := h
  obtain ⟨z, e, _, hz⟩ := DataW.trod_int Tryz.underlying3 h
  injection e with e
  simp [Lit.wf, IntKind.min, IntKind.max, IntKind.signed, IntKind.bits] at hz
  exact ⟨z, e, by omega, by omega⟩
/-- a field of a struct -/
theorem rz_field {t : TypeId} {fs : Array Field} {cs : List Value} (ht : Tryz.prog.underlying t = some (.struct fs)) (h : Rz enc w base spare held t cs) (i : Nat) (f : Field) (hi : fs[i]? = some f) : cs.length = Tryz.prog.cellsOf t ∧ Rz enc w base spare held f.type ((cs.drop f.offset).take (Tryz.prog.cellsOf f.type)) := by
  obtain ⟨n, x, h, hz⟩ := h
  obtain ⟨xs, m, _, hx0, hl, hx, hf⟩ := DataW.trod_struct ht h
  have h1 := hf i f hi
  have hlt : i < xs.length := by rw [hx]; exact (Array.getElem?_eq_some_iff.1 hi).1
  rw [List.getElem?_eq_getElem hlt] at h1
  refine ⟨hl, m, _, h1, fun q hq => ?_⟩
  subst hx0
  simp only [DataW.weights, ht] at hz
  exact hz q (DataW.weights_mem_each (j := i) (by simp [hi]) (by simp [List.getElem?_eq_getElem hlt]) q hq)
theorem cStr' : Tryz.prog.cellsOf 9 = 1 := by kernel_rfl
end
end Go.Proofs.YtkkggpahanddnaaGreatDoor
/- How an argument that is a document, or a layout, is read. -/
namespace Go.Proofs.YtkkggpahanddnaaGreatDoor
open Go.ChangeShapes Go.WideShapes Go.RowKit
section
variable {H : Type} {enc : TypeId × Value → H} {w : World} {base : Nat} {spare : Nat → Bool} {held : Bool}
theorem rz_strs {v : Value} (h : Rz enc w base spare held 38 [v]) : ∃ ad n c xs, v = .slice ad n c ∧ Sl w ad n (strs xs) ∧ (ad = none → c = 0) ∧ n * 16 ≤ 140737488351232 := by
  obtain ⟨ad, n, c, f, b, off, hv, hr, hc, hz, he⟩ := rz_rows Tryz.underlying38 cStr' (by omega) h
  have each : ∀ i, i < n → ∃ s, f i 0 = .string s := fun i hi => by
    obtain ⟨s, hs, _⟩ := rz_string (he i hi)
    exact ⟨s, hs⟩
  obtain ⟨g, hg⟩ := Go.Deep.choose_lt each
  rw [show Tryz.prog.bytesOf 9 = 16 by kernel_rfl, show reachBytes = 140737488351232 from rfl] at hz
  refine ⟨ad, n, c, (List.range n).map g, hv, ⟨b, off, ⟨by simp [strs], hr.max, hr.adr, fun i hi => ?_⟩⟩, hc, hz⟩
  have := hr.cell i 0 hi (by omega)
  rw [Nat.mul_one, Nat.add_zero, hg i hi] at this
  rw [this, strs_getD _ _ (by simpa using hi)]
  simp [List.getD, hi]
/-- a layout of the reference -/
theorem pcs_cells {v : Value} (h : Rz enc w base spare held 22 [v]) : ∃ ad n c ps, v = .slice ad n c ∧ Pc w ad n ps ∧ (∀ p ∈ ps, -9223372036854775808 ≤ p.1 ∧ p.1 ≤ 9223372036854775807) := by
  obtain ⟨ad, n, c, f, b, off, hv, hr, hc, hz, he⟩ := rz_rows Tryz.underlying22 (k := 2) cellsRc (by omega) h
  have each : ∀ i, i < n → ∃ p : Int × ByteArray, f i 0 = .int .i64 p.1 ∧ f i 1 = .string p.2 ∧ -9223372036854775808 ≤ p.1 ∧ p.1 ≤ 9223372036854775807 := fun i hi => by
    obtain ⟨z, e0, z1, z2⟩ := rz_int (enc := enc) (w := w) (base := base) (spare := spare) (held := held) (v := f i 0) (by
      have this : Rz enc w base spare held 3 ((((List.range 2).map (f i)).drop 0).take (Tryz.prog.cellsOf 3)) := (rz_field Tryz.underlying42 (he i hi) 0 _ rfl).2
      rw [show Tryz.prog.cellsOf 3 = 1 by kernel_rfl] at this
      exact this)
    obtain ⟨s, e1, _⟩ := rz_string (enc := enc) (w := w) (base := base) (spare := spare) (held := held) (v := f i 1) (by
      have this : Rz enc w base spare held 9 ((((List.range 2).map (f i)).drop 1).take (Tryz.prog.cellsOf 9)) := (rz_field Tryz.underlying42 (he i hi) 1 _ rfl).2
      rw [cStr'] at this
      exact this)
    exact ⟨(z, s), e0, e1, z1, z2⟩
  obtain ⟨q, hq⟩ := Go.Deep.choose_lt each
  have hgd : ∀ i, i < n → ((List.range n).map q).getD i (0, .empty) = q i := fun i hi => by simp [List.getD, hi]
  refine ⟨ad, n, c, (List.range n).map q, hv, ⟨b, off, ⟨by simp, hr.max, hr.adr, fun i hi => ?_, fun i hi => ?_⟩⟩, fun p hp => ?_⟩
  · have := hr.cell i 0 hi (by omega)
    rw [Nat.add_zero, (hq i hi).1] at this
    rw [this, hgd i hi]
  · have := hr.cell i 1 hi (by omega)
    rw [(hq i hi).2.1] at this
    rw [this, hgd i hi]
  · obtain ⟨i, hi, rfl⟩ := List.mem_map.1 hp
    exact (hq i (List.mem_range.1 hi)).2.2
end
end Go.Proofs.YtkkggpahanddnaaGreatDoor
/- Walks inside a fence: the program's Body. -/
namespace Go.Proofs.YtkkggpahanddnaaGreatDoor
open Go.RowKit Go.Shelf
attribute [local go_sem] Oper.semAt_some

/-- a piece of at most 2000 bytes -/
abbrev Short := { x : Nat × ByteArray // x.2.size ≤ 2000 }
noncomputable def shortF (l : List ByteArray) (h : ∀ s ∈ l, s.size ≤ 2000) (j : Nat) : Short := ⟨pieceF l j, by
  unfold pieceF
  rcases Nat.lt_or_ge j l.length with hj | hj
  · exact h _ (getD_mem l j _ hj)
  · rw [List.getD_eq_getElem?_getD, List.getElem?_eq_none hj]; exact Nat.zero_le _⟩
theorem short_cat (l : List ByteArray) (h : ∀ s ∈ l, s.size ≤ 2000) : ∀ k, k ≤ l.length → (upto (shortF l h) k).map (fun x : Short => x.1.2) = l.take k
  | 0, _ => by simp [upto]
  | k + 1, hk => by
    rw [upto_succ, List.map_append, short_cat l h k (by omega), List.take_succ_eq_append_getElem (by omega)]
    simp [shortF, pieceF, List.getD, List.getElem?_eq_getElem (show k < l.length by omega)]
theorem builder_own {β : Type} (B b : Nat) (f : β → List Value) : Own (fun s W => Lib.IsBuilder 72 5 B b (f s) W) := by
  rintro s X Y row h hg hr
  have key : ∀ p, Lib.BuilderAt 72 5 B b p (f s) X → Lib.BuilderAt 72 5 B b p (f s) Y := by
    rintro p ⟨hB, v, hb, hown, hne⟩
    refine ⟨hB, v, (hg.block b (Array.getElem?_eq_some_iff.1 hb).1 (fun e => ?_)).trans hb, hown.kept hg ?_, hne⟩
    · obtain ⟨o, ho, hc⟩ := hr b e.symm
      rw [hb] at ho; cases ho; cases hc
    · rcases hown.2 with ⟨rfl, _⟩ | ⟨g, cap, cur, rfl, _, hgb, _⟩
      · exact .inl rfl
      · refine .inr fun e' => ?_
        obtain ⟨o, ho, hc⟩ := hr g (by simpa [Value.ownBlock] using e'.symm)
        rw [hgb] at ho; cases ho; cases hc
  exact h.elim (fun h => .inl (key _ h)) (fun h => .inr (key _ h))
theorem ownFrom_keepS {β : Type} {S : Nat → Prop} {V : World} {B : Nat} (hS : ∀ k, S k → k < B) (hV : ∀ k, S k → k < V.heap.size) : OwnFrom B (fun (_ : β) W => V.heap.size ≤ W.heap.size ∧ KeepS S V W) :=
  fun _ X Y row hs hg hr => ⟨Nat.le_trans hs.1 hg.size, fun k hk => (hg.block k (Nat.lt_of_lt_of_le (hV k hk) hs.1) (fun e => by have := (hr k e.symm).1; have := hS k hk; omega)).trans (hs.2 k hk)⟩
theorem keepS_doc {W w' : World} {Bd b m bB : Nat} {cs : Array Value} {base : Nat} (hd : W.heap[Bd]? = some (.cells cs 40 (0, 0))) (hne : Bd ≠ bB) (hbl : Below base W w') (hbk : m ≠ 0 → b < base) (hkt : KeepT bB W w') : KeepS (SDoc Bd b m) W w' := by
  intro k hk
  rcases hk with rfl | ⟨rfl, hm⟩
  · rw [hd]; exact hkt.same _ _ hd hne (fun cs fr e => by cases e)
  · exact hbl.block _ (hbk hm)
end Go.Proofs.YtkkggpahanddnaaGreatDoor
/- Walks inside a fence: the program's Diff. -/
namespace Go.Proofs.YtkkggpahanddnaaGreatDoor
open Go.RowKit Go.Shelf
attribute [local go_sem] Oper.semAt_some

/-- .. and one more -/
def SDoc2 (Bd b m e : Nat) (k : Nat) : Prop := SDoc Bd b m k ∨ k = e
theorem SDoc2.lt {Bd b m e B : Nat} (h1 : Bd < B) (h2 : m ≠ 0 → b < B) (h3 : e < B) : ∀ k, SDoc2 Bd b m e k → k < B := fun k h => h.elim (SDoc.lt h1 h2 k) (fun h => by subst h; exact h3)
def stepD (m : List ByteArray) (x : Nat × ByteArray) : List (Int × ByteArray) := if (getV m (x.1 : Int)).1 = x.2 then [] else [((x.1 : Int), x.2)]
def diffP (m : List ByteArray) (pre : List (Nat × ByteArray)) : List (Int × ByteArray) := pre.flatMap (stepD m)
theorem diffP_snoc (m : List ByteArray) (pre : List (Nat × ByteArray)) (x : Nat × ByteArray) : diffP m (pre ++ [x]) = diffP m pre ++ stepD m x := by simp [diffP]
theorem diffP_len (m : List ByteArray) (pre : List (Nat × ByteArray)) : (diffP m pre).length ≤ pre.length := by
  induction pre with
  | nil => exact Nat.le_refl _
  | cons x pre ih =>
    have : diffP m (x :: pre) = stepD m x ++ diffP m pre := rfl
    rw [this, List.length_append, List.length_cons]
    have : (stepD m x).length ≤ 1 := by unfold stepD; split <;> simp
    omega
theorem diffP_upto (l m : List ByteArray) (hl : m.length = l.length) : ∀ k, k ≤ l.length → diffP m (upto (pieceF l) k) = diffN l m k
  | 0, _ => rfl
  | k + 1, hk => by
    rw [upto_succ, diffP_snoc, diffP_upto l m hl k (by omega), diffN]
    congr 1
    unfold stepD pieceF
    simp only
    rw [getV_in (by omega)]
    by_cases h : l.getD k .empty = m.getD k .empty
    · rw [if_pos h.symm, if_pos h]
    · rw [if_neg (fun e => h e.symm), if_neg h]
/-- append of one piece, inside a fence -/
theorem wpListIn_app2 {F : Fence} {n0 : Nat} {P : Program} {ops : Array Oper} {rest : List Oper} {o : Oper} {a : Act} {Q : Exit → Act → World → Prop} {w : World} (t E : TypeId)
    (ht : P.underlying t = some (.slice E)) (i : TypeInfo) (z : Value) (hi : P.info? E = some i) (hz : i.zero = some z) (hsize : i.size = 2) (hby : i.bytes = 24) (hzs : z.cells.size = 2)
    (hgd : o.guard = none) (s x : Operand) (ho : o.op = .call { callee := .builtin .append, args := #[s, x], argTypes := #[t, t] })
    (base : Nat) (v : Value) (n : Nat) (xs : List Value) (hs : a.eval s = v) (hown : w.ownsRow base E 2 v n xs)
    (y0 y1 : Value) (E' : TypeId) (hx : a.eval x = .slice (some ⟨w.heap.size, 0, none⟩) 1 1) (h0 : y0.oneCell' = true) (h1 : y1.oneCell' = true)
    (hn : n ≤ 1000000000) (hbase : base ≤ w.heap.size)
    (h : ∀ ad' c' w', w'.ownsRow base E 2 (.slice ad' (n + 1) c') (n + 1) (xs ++ [y0, y1]) → (w.alloc (.cells #[y0, y1] E')).grownBy w' v.ownBlock →
      wpListIn F n0 P ops Q rest (a.put o.dst (.slice ad' (n + 1) c')) w') : wpListIn F n0 P ops Q (o :: rest) a (w.alloc (.cells #[y0, y1] E')) := by
  refine wpListIn_append_own _ hgd s x t ho base E i z 2 24 ht hi hz hsize hby hzs (by omega) v n xs hs (World.ownsRow.alloc hown _) ⟨w.heap.size, 0, none⟩ 1 1 [y0, y1] hx rfl (World.news_of_block (row_new w #[y0, y1] E'))
    (by intro u hu; simp at hu; rcases hu with rfl | rfl <;> assumption) (by unfold maxLen; omega) (by omega) (by simp; omega) ?_
  intro v' w' g1 g2 _
  obtain ⟨ad', c', rfl⟩ := own_form_k g1
  exact h ad' c' w' g1 g2
set_option maxRecDepth 100000 in
set_option maxHeartbeats 4000000 in
theorem pdiff_no (h t : ByteArray) (ad : Option Addr) (n c : Nat) (h' t' : ByteArray) (ad' : Option Addr) (n' c' : Nat) (w : World) (hne : n ≠ n') :
    Calls Tryz.prog 13 #[.agg #[.string h, .slice ad n c, .string t], .agg #[.string h', .slice ad' n' c', .string t']] w fun e w' => e = .returned (.tuple #[.slice none 0 0, .int .i64 1]) ∧ Below w.heap.size w w' := by
  have h1 : ((n : Int) != (n' : Int)) = true := by simp; omega
  have h2 : ¬ ((n : Int) = (n' : Int)) := by omega
  refine (callsIn_wide (n := 5)).1 ?_
  refine callsIn_of_wp_marks Tryz.func13 rfl trivial ?_ rfl
  simp only [Tryz.ntmps13, List.size_toArray, List.length_cons, List.length_nil, Nat.reduceAdd, Nat.reduceSub, Array.replicate_succ, Array.replicate_zero, List.push_toArray, List.append_toArray, List.nil_append, List.cons_append]
  gi_wp2
  exact ⟨.tuple #[.slice none 0 0, .int .i64 1], by simp [results, Tryz.f13, go_sem], rfl, ((Below.refl _ _).alloc (Nat.le_refl _) _).alloc (by simp) _⟩
theorem boxed_below {w W : World} {B : Nat} {t : TypeId} {v : Value} (h : Boxed w B t v) (hb : Below w.heap.size w W) : Boxed W B t v := (hb.block B h.lt).trans h
theorem below_others {w w' : World} (h : Below w.heap.size w w') : KeepsOthers w w' := ⟨h.size, fun k _ hk _ => (h.block k (Array.getElem?_eq_some_iff.1 hk).1).trans hk⟩
theorem keepS2_app {w' w3 : World} {v v' : Value} {Bd b m e base B n : Nat} {E T : TypeId} {size : Nat} {xs : List Value} {cs cs' : Array Value} {tmp : Obj} (hg : (w'.alloc tmp).grownBy w3 v.ownBlock) (hd : w'.heap[Bd]? = some (.cells cs T (0, 0))) (he : w'.heap[e]? = some (.cells cs' T (0, 0)))
    (hrow : w'.ownsRow base E size v n xs) (hTE : T ≠ E) (hb : m ≠ 0 → b < base) (hz : base ≤ w'.heap.size) (h1 : Bd ≠ B) (h2 : e ≠ B) (h3 : base ≤ B) : KeepS (SDoc2 Bd b m e) w' (w3.setCell ⟨B, 0, none⟩ v') := by
  have key : ∀ k, k ≠ B → k < w'.heap.size → v.ownBlock ≠ some k → (w3.setCell ⟨B, 0, none⟩ v').heap[k]? = w'.heap[k]? := fun k hk hlt hne =>
    (Below.heap_setCell w3 ⟨B, 0, none⟩ v' k hk).trans ((hg.block k (by simp; omega) (fun e => hne e.symm)).trans (Below.heap_alloc _ _ _ hlt))
  rintro k ((rfl | ⟨rfl, hm⟩) | rfl)
  · exact key _ h1 (Array.getElem?_eq_some_iff.1 hd).1 (own_other hrow hd hTE)
  · have := hb hm
    exact key _ (by omega) (by omega) (fun e => by have := (World.ownsRow.lt hrow _ e).1; omega)
  · exact key _ h2 (Array.getElem?_eq_some_iff.1 he).1 (own_other hrow he hTE)
set_option maxRecDepth 100000 in
set_option maxHeartbeats 4000000 in
theorem pdiff_yes (h t : ByteArray) (ad : Option Addr) (m c : Nat) (xs : List ByteArray) (h' t' : ByteArray) (ad' : Option Addr) (c' : Nat) (xs' : List ByteArray) (w : World) (hx : Sl w ad m (strs xs)) (hx' : Sl w ad' m (strs xs')) (hm : m ≤ 100000) :
    Calls Tryz.prog 13 #[.agg #[.string h, .slice ad m c, .string t], .agg #[.string h', .slice ad' m c', .string t']] w (DiffPost 43 w (diffV (allV h xs t) (allV h' xs' t'))) := by
  have hl : xs.length = m := by have := hx.len; rwa [strs_length] at this
  have hl' : xs'.length = m := by have := hx'.len; rwa [strs_length] at this
  have HGET : Hid (∀ (i : Int) W, Below w.heap.size w W → Calls Tryz.prog 25 #[.agg #[.string h', .slice ad' m c', .string t'], .int .i64 i] W fun e W' => e = .returned (getR (getV (allV h' xs' t') i)) ∧ Below W.heap.size W W') := fun i W hW => pget_any h' t' ad' m c' xs' i W (hx'.below hW) (by omega)
  obtain ⟨b, off, hx⟩ := hx
  have hbk : m ≠ 0 → b < w.heap.size := fun h => hx.block h
  have HX := Lib.hid hx
  have HLL : Hid ((allV h xs t).length = m + 2) := by unfold Hid; rw [allV_len, hl]
  have HLM : Hid ((allV h' xs' t').length = (allV h xs t).length) := by unfold Hid; rw [allV_len, allV_len]; omega
  obtain ⟨i0, hi, hz0, hz1, hz2⟩ := info_parts infoPc
  have HI := Lib.hid hi
  have HZ0 := Lib.hid hz0
  have HZ1 := Lib.hid hz1
  have HZ2 := Lib.hid hz2
  clear hx hx' hl hl' hi hz0 hz1 hz2
  generalize hM : allV h' xs' t' = M at *
  refine (callsIn_wide (n := 5)).1 ?_
  refine callsIn_of_wp_marks Tryz.func13 rfl trivial ?_ rfl
  simp only [Tryz.ntmps13, List.size_toArray, List.length_cons, List.length_nil, Nat.reduceAdd, Nat.reduceSub, Array.replicate_succ, Array.replicate_zero, List.push_toArray, List.append_toArray, List.nil_append, List.cons_append]
  gi_wp2_with (refine ⟨trivial, ?_⟩; gi_at_call 24; refine (pall_in 4 h t ad m c _).mono ?_; rintro e w' ⟨rfl, rfl⟩)
  refine wpIn_at_world ?_
  intro V hV
  have kd : V.heap[w.heap.size + 1 + 1 + 1]? = some (.cells #[.string h, .slice ad m c, .string t] 40 (0, 0)) := by
    rw [hV]
    have := row_new (((w.alloc (.cells #[.string h, .slice ad m c, .string t] 40)).alloc (.cells #[.string h', .slice ad' m c', .string t'] 40)).alloc (.cells #[.slice none 0 0] 25)) #[.string h, .slice ad m c, .string t] 40
    simpa only [World.size_alloc] using this
  have kc : V.heap[w.heap.size + 1]? = some (.cells #[.string h', .slice ad' m c', .string t'] 40 (0, 0)) := by
    rw [hV]
    exact (Below.heap_alloc _ _ _ (by simp <;> omega)).trans ((Below.heap_alloc _ _ _ (by simp <;> omega)).trans (row_new2 _ _ _ _))
  have b2 : Boxed V (w.heap.size + 1 + 1) 25 (.slice none 0 0) := by
    rw [hV]
    have := Boxed.new ((w.alloc (.cells #[.string h, .slice ad m c, .string t] 40)).alloc (.cells #[.string h', .slice ad' m c', .string t'] 40)) 25 (.slice none 0 0)
    rw [World.size_alloc, World.size_alloc] at this
    exact this.alloc _
  have hB0 : Below w.heap.size w V := by
    rw [hV]
    exact ((((Below.refl _ w).alloc (Nat.le_refl _) _).alloc (by simp) _).alloc (by simp; omega) _).alloc (by simp; omega) _
  have hzV : w.heap.size + 1 + 1 + 1 < V.heap.size := by rw [hV]; simp
  clear hV
  have hSlt : ∀ k, SDoc2 (w.heap.size + 1 + 1 + 1) b m (w.heap.size + 1) k → k < V.heap.size := SDoc2.lt hzV (fun h => by have := hbk h; omega) (by omega)
  refine wpIn_rangeFunc_ownG rfl (by omega) (gf := 42) (lb := #[.pointer (some ⟨w.heap.size + 1 + 1 + 1, 0, none⟩)]) rfl trivial (enters_of Tryz.func42 (by kernel_rfl) rfl)
    (pall_stops 4 (by omega) (w.heap.size + 1 + 1 + 1) (SDoc2 (w.heap.size + 1 + 1 + 1) b m (w.heap.size + 1)) h t ad m c b off xs V (by omega) (.inl (.inl rfl)) (fun h => .inl (.inr ⟨rfl, h⟩)) kd (HX.out.below hB0)) (fun h1 h2 => KeepS.trans h1 h2) (KeepS.put hSlt) (Below.refl _ _) (fun _ => rfl)
    (fun pre W => ((∃ v, Boxed W (w.heap.size + 1 + 1) 25 v ∧ W.ownsRow w.heap.size 43 2 v (diffP M pre).length (pcCells (diffP M pre)) ∧ True) ∧ (V.heap.size ≤ W.heap.size ∧ KeepS (SDoc2 (w.heap.size + 1 + 1 + 1) b m (w.heap.size + 1)) V W)) ∧ Below w.heap.size w W)
    (fun _ _ _ => False)
    (OwnFrom.and (OwnFrom.and (Own.from (holdsRow_own _ _ _ _ _ (fun pre => (diffP M pre).length) (fun pre => pcCells (diffP M pre)) (fun _ _ => True)) _) (ownFrom_keepS hSlt hSlt)) (ownFrom_below (Nat.le_refl _) (by omega)))
    (fun _ _ _ _ _ hs _ _ => hs)
    ⟨⟨⟨_, b2, World.ownsRow_nil _ _ _ _, trivial⟩, Nat.le_refl _, KeepS.refl _ _⟩, hB0⟩
    (fun x => { tmps := #[.agg #[.string h, .slice ad m c, .string t], .agg #[.string h', .slice ad' m c', .string t'], .pointer (some ⟨w.heap.size, 0, none⟩), .pointer (some ⟨w.heap.size + 1, 0, none⟩), .slice none 0 0, .int .i64 0, .pointer (some ⟨w.heap.size + 1 + 1, 0, none⟩), .int .i64 (x.1 : Int), .string x.2, undef, undef, .pointer (some ⟨w.heap.size, 1, none⟩), .slice ad m c, .int .i64 (m : Int), .pointer (some ⟨w.heap.size + 1, 1, none⟩), .slice ad' m c', .int .i64 (m : Int), .bool false, .agg #[.string h, .slice ad m c, .string t], .func (.func 42) #[] #[.pointer (some ⟨w.heap.size + 1 + 1 + 1, 0, none⟩)], .int .i64 (x.1 : Int), .string x.2, undef, undef, undef, undef, undef, undef, undef, undef, undef, undef, undef, undef, undef, undef, undef, undef], defers := [] }) ?assign ?body ?done ?stop
  case assign =>
    intro l x W K hK
    gi_wp2
    exact hK
  case body =>
    rintro l pre x W ⟨⟨⟨v, hbx, hrow, _⟩, hVW, hkp⟩, hB⟩ hlen
    have hkc := (hkp _ (.inr rfl)).trans kc
    have c0 := row_cells hkc 0
    have c1 := row_cells hkc 1
    have c2 := row_cells hkc 2
    have hdl : (diffP M pre).length ≤ 1000000000 := by have := diffP_len M pre; omega
    have HG := Lib.hid (HGET.out (x.1 : Int) W hB)
    have HSN := Lib.hid (diffP_snoc M pre x)
    have HROW := Lib.hid hrow
    have HBX := Lib.hid hbx
    have HKP := Lib.hid hkp
    have HB := Lib.hid hB
    have HKC := Lib.hid hkc
    obtain ⟨x0, x1⟩ := x
    simp only at HG
    have hst : stepD M (x0, x1) = if (getV M (x0 : Int)).1 = x1 then [] else [((x0 : Int), x1)] := rfl
    rw [hst] at HSN
    generalize getV M (x0 : Int) = y at *
    obtain ⟨y0, y1⟩ := y
    simp only [getR] at HG
    clear hrow hbx hkp hB hkc hst
    by_cases hyx : y0 = x1
    · subst hyx
      simp only [if_true, List.append_nil] at HSN
      gi_wp2_with (refine ⟨trivial, ?_⟩; gi_at_call 25; refine (CallsIn.inRound l (callsIn_wide.2 HG.out)).mono ?_; rintro e w' ⟨rfl, hbl⟩)
      have hks : KeepS (SDoc2 (w.heap.size + 1 + 1 + 1) b m (w.heap.size + 1)) W w' := fun k hk => hbl.block k (Nat.lt_of_lt_of_le (hSlt k hk) hVW)
      exact ⟨(below_others hbl).from _, hks, ⟨⟨v, boxed_below HBX.out hbl, by rw [HSN.out]; exact own_below2 HROW.out hbl, trivial⟩, Nat.le_trans hVW hbl.size, HKP.out.trans hks⟩, HB.out.trans (hbl.mono HB.out.size)⟩
    · have hne : (y0.toList == x1.toList) = false := by
        rw [ByteArray.toList_eq, ByteArray.toList_eq, beq_eq_false_iff_ne]
        exact fun e => hyx (ByteArray.ext (Array.toList_inj.1 e))
      have hne2 : (y0.toList != x1.toList) = true := by unfold bne; rw [hne]; rfl
      simp only [if_neg hyx] at HSN
      have hwW := HB.out.size
      gi_wp2_with (first
        | (refine ⟨trivial, ?_⟩; gi_at_call 25; refine (CallsIn.inRound l (callsIn_wide.2 HG.out)).mono ?_; rintro e w' ⟨rfl, hbl⟩; have hb' := boxed_below HBX.out hbl; have hbc := hb'.cell; have hzz : w.heap.size ≤ w'.heap.size := Nat.le_trans hwW hbl.size; have HBX2 := Lib.hid hb'; have HR2 := Lib.hid (own_below2 HROW.out hbl); have HBL := Lib.hid hbl; clear hb' hbl)
        | (gi_at_builtin; refine wpListIn_app2 25 43 Tryz.underlying25 i0 _ HI.out HZ0.out HZ1.out HZ2.out rfl rfl _ _ rfl w.heap.size v _ _ rfl HR2.out _ _ _ rfl rfl rfl hdl hzz ?_; intro ad6 c6 w3 hown3 hg3; obtain ⟨k1, k2, k3, k4, k5⟩ := HBX2.out.appended (by decide) HR2.out hzz (by omega) hown3 hg3; have hc1 := k1.cell; have hf1 := k1.frozen; have HO3 := Lib.hid hown3; have HG3 := Lib.hid hg3; have HK2 := Lib.hid k2; have HK3 := Lib.hid k3; have HK4 := Lib.hid k4; have HK5 := Lib.hid k5; clear hown3 hg3 k1 k2 k3 k4 k5))
      have hWd := (HBL.out.block (w.heap.size + 1 + 1 + 1) (by omega)).trans ((HKP.out _ (.inl (.inl rfl))).trans kd)
      have hWe := (HBL.out.block (w.heap.size + 1) (by omega)).trans HKC.out
      have hks : KeepS (SDoc2 (w.heap.size + 1 + 1 + 1) b m (w.heap.size + 1)) W (w3.setCell ⟨w.heap.size + 1 + 1, 0, none⟩ (.slice ad6 ((diffP M pre).length + 1) c6)) :=
        (show KeepS _ W w' from fun k hk => HBL.out.block k (Nat.lt_of_lt_of_le (hSlt k hk) hVW)).trans (keepS2_app HG3.out hWd hWe HR2.out (by decide) hbk hzz (by omega) (by omega) (by omega))
      refine ⟨((below_others HBL.out).trans HK4.out).from _, hks, ⟨⟨_, HK2.out, ?_, trivial⟩, Nat.le_trans hVW (Nat.le_trans HBL.out.size HK4.out.size), HKP.out.trans hks⟩, (HB.out.trans (HBL.out.mono HB.out.size)).trans HK5.out⟩
      rw [HSN.out, pcCells_snoc, List.length_append]
      exact HK3.out
  case done =>
    rintro D ys W hD rfl ⟨⟨⟨v, hbx, hrow, _⟩, hVW, hkp⟩, hB⟩ hK
    rw [diffP_upto _ _ HLM.out _ (by rw [HLL.out]; exact Nat.le_refl _), ← HLL.out] at hrow
    have hbc := hbx.cell
    gi_wp2
    refine ⟨by simp, .inl ⟨_, _, rfl, run_takeDeferred hK, ?_⟩⟩
    obtain ⟨ad7, c7, rfl⟩ := own_form_k hrow
    exact ⟨.tuple #[.slice ad7 (diffV (allV h xs t) M).length c7, .int .i64 0], by simp [results, Tryz.f13, go_sem, diffV], ad7, c7, rfl, ownsRow_putObj hrow _ hK rfl, hB.trans (belowK_b (w := w) (Nat.le_refl _) _ D _ _ (by omega) hK rfl rfl)⟩
  case stop =>
    rintro D c pre W _ _ h _
    exact h.elim
end Go.Proofs.YtkkggpahanddnaaGreatDoor
/- Walks: awake. -/
namespace Go.Proofs.YtkkggpahanddnaaGreatDoor
open Go.RowKit
attribute [local go_sem] Ext.cell Ext.frozen
attribute [local go_sem ↓] Go.wp_at_zero Go.wp_at_succ

def awP : List (Int × ByteArray) := [(((2 : Nat) : Int), ⟨#[99]⟩), (((3 : Nat) : Int), ⟨#[10]⟩)]
theorem aw_diff : diffV (allV ⟨#[104]⟩ [⟨#[97]⟩, ⟨#[99]⟩] ⟨#[10]⟩) (allV ⟨#[104]⟩ [⟨#[97]⟩, ⟨#[98]⟩] ⟨#[]⟩) = awP := by decide +kernel
theorem aw_text : textV awP = [50, 32, 34, 99, 34, 32, 51, 32, 34, 92, 110, 34] := by decide +kernel
theorem sl_two {w : World} {B : Nat} {E : TypeId} {s t : ByteArray} (hb : w.heap[B]? = some (.cells #[.string s, .string t] E (0, 0))) : Sl w (some ⟨B, 0, none⟩) 2 (strs [s, t]) :=
  ⟨B, 0, ⟨rfl, by omega, fun _ => rfl, fun i hi => by
    have : i = 0 ∨ i = 1 := by omega
    rcases this with rfl | rfl <;> (rw [Nat.zero_add, row_cells hb]; rfl)⟩⟩
set_option maxRecDepth 20000 in
set_option maxHeartbeats 4000000 in
theorem awake_any (w : World) : Calls Tryz.prog 4 #[] w fun e w' => e = .returned (.bool true) ∧ Below w.heap.size w w' := by
  have HD : Hid (Calls Tryz.prog 13 #[.agg #[.string ⟨#[104]⟩, .slice (some ⟨w.heap.size, 0, none⟩) 2 2, .string ⟨#[10]⟩], .agg #[.string ⟨#[104]⟩, .slice (some ⟨w.heap.size + 1, 0, none⟩) 2 2, .string ⟨#[]⟩]] ((w.alloc (.cells #[.string ⟨#[97]⟩, .string ⟨#[99]⟩] 9)).alloc (.cells #[.string ⟨#[97]⟩, .string ⟨#[98]⟩] 9)) (DiffPost 43 ((w.alloc (.cells #[.string ⟨#[97]⟩, .string ⟨#[99]⟩] 9)).alloc (.cells #[.string ⟨#[97]⟩, .string ⟨#[98]⟩] 9)) awP)) := by
    have := pdiff_yes ⟨#[104]⟩ ⟨#[10]⟩ (some ⟨w.heap.size, 0, none⟩) 2 2 [⟨#[97]⟩, ⟨#[99]⟩] ⟨#[104]⟩ ⟨#[]⟩ (some ⟨w.heap.size + 1, 0, none⟩) 2 [⟨#[97]⟩, ⟨#[98]⟩] ((w.alloc (.cells #[.string ⟨#[97]⟩, .string ⟨#[99]⟩] 9)).alloc (.cells #[.string ⟨#[97]⟩, .string ⟨#[98]⟩] 9))
      (sl_two ((Below.heap_alloc _ _ _ (by simp)).trans (row_new _ _ _))) (sl_two (row_new2 _ _ _ _)) (by omega)
    rw [aw_diff] at this
    exact this
  have HT : Hid (∀ ad c w', Pc w' ad 2 awP → Calls Tryz.prog 8 #[.slice ad 2 c] w' fun e w'' => e = .returned (.string ⟨#[50, 32, 34, 99, 34, 32, 51, 32, 34, 92, 110, 34]⟩) ∧ Below w'.heap.size w' w'') := fun ad c w' hp => by
    have := text_any ad 2 c awP w' hp (by omega) (by unfold awP; intro p hp; simp at hp; rcases hp with rfl | rfl <;> decide)
      (by unfold awP; intro p hp; simp at hp; rcases hp with rfl | rfl; exact ItoaOk.small 2 (by omega) w'; exact ItoaOk.small 3 (by omega) w')
      (by
        unfold awP
        intro p hp
        simp at hp
        rcases hp with rfl | rfl
        · intro c hc; simp at hc; subst hc; exact BslOk.easy (.inl (by decide)) w'
        · intro c hc; simp at hc; subst hc; exact BslOk.easy (.inr (.inl rfl)) w')
    rw [aw_text] at this
    exact this
  go_enter Tryz.func4, Tryz.ntmps4
  go_wp2_with fail
  (with_reducible refine HD.out.mono ?_)
  rintro e w1 ⟨ad, c, rfl, hown, hb⟩
  have HB1 : Hid (Below w.heap.size w w1) := (((Below.refl _ _).alloc (Nat.le_refl _) _).alloc (by simp) _).trans (hb.mono (by simp; omega))
  have HT1 := Lib.hid (HT.out ad c w1 (own_pc hown))
  clear hown hb HT HD
  go_wp2_with fail
  refine HT1.out.mono ?_
  rintro e w2 ⟨rfl, hb2⟩
  have HB2 : Hid (Below w.heap.size w w2) := HB1.out.trans (hb2.mono HB1.out.size)
  clear hb2
  go_wp2_with fail
  go_ret
  exact ⟨rfl, HB2.out⟩
end Go.Proofs.YtkkggpahanddnaaGreatDoor
