/- How an argument that is a struct, or a slice of structs, is read; and that what it holds lies within the reach. -/
import Derived.Test.YtadhblppeaamlaaGreatDoorO
import Derived.Test.YtadhblppeaamlaaGreatDoorT1
import Derived.Deep.Slices
import Derived.ChangeArms
import Derived.SizedLaws
namespace Go.Proofs.YtadhblppeaamlaaGreatDoor
open Go.ChangeShapes Go.WideShapes Go.RowKit
section
variable {H : Type} {enc : TypeId × Value → H} {w : World} {base : Nat} {spare : Nat → Bool} {held : Bool}
/-- a value that reads as data of a type, each of its strings and slices within the reach -/
abbrev Rz (enc : TypeId × Value → H) (w : World) (base : Nat) (spare : Nat → Bool) (held : Bool) (t : TypeId) (cs : List Value) : Prop :=
  ∃ n x, DataW.trod enc Tryz.prog w base spare held n t cs = some x ∧ ∀ m ∈ x.1.weights Tryz.prog t, m ≤ reachBytes
theorem rz_of {n : Nat} {t : TypeId} {cs : List Value} {x : DataW H × List MemPlace} (h : DataW.trod enc Tryz.prog w base spare held n t cs = some x) (hz : ∀ m ∈ x.1.weights Tryz.prog t, m ≤ reachBytes) : Rz enc w base spare held t cs := ⟨n, x, h, hz⟩
theorem rz_sized {ts : List TypeId} {ds : List (DataW H)} {n : Nat} {t : TypeId} {cs : List Value} {x : DataW H × List MemPlace} (h : DataW.trod enc Tryz.prog w base spare held n t cs = some x)
    (hsz : (DataW.weightsEach Tryz.prog ts ds).all (· ≤ reachBytes) = true) (j : Nat) (ht : ts[j]? = some t) (hd : ds[j]? = some x.1) : Rz enc w base spare held t cs :=
  ⟨n, x, h, fun m hm => by simpa using List.all_eq_true.1 hsz _ (DataW.weights_mem_each ht hd m hm)⟩
theorem spot_of_cell' {W : World} {a : Addr} {v : Value} (h : W.cell? (a.add 0) = some v) : a = ⟨a.block, a.off, none⟩ := by
  have hs : a.spot = none := by simpa [Addr.add] using World.cell?_spot h
  cases a
  simp at hs
  simp [hs]
theorem weightsAll_mem {P : Program} {e : TypeId} : ∀ {l : List (DataW H)} {d : DataW H}, d ∈ l → ∀ m ∈ d.weights P e, m ∈ DataW.weightsAll P e l
  | d0 :: r, d, h, m, hm => by
    simp only [DataW.weightsAll, List.mem_append]
    rcases List.mem_cons.1 h with h | h
    · subst h; exact .inl hm
    · exact .inr (weightsAll_mem h m hm)
theorem rz_rows {t e : TypeId} {k : Nat} {v : Value} (ht : Tryz.prog.underlying t = some (.slice e)) (hk : Tryz.prog.cellsOf e = k) (hk0 : 0 < k) (h : Rz enc w base spare held t [v]) :
    ∃ ad n c, ∃ f : Nat → Nat → Value, ∃ b off, v = .slice ad n c ∧ Rw w ad n k f b off ∧ (ad = none → c = 0) ∧ n * Tryz.prog.bytesOf e ≤ reachBytes ∧ ∀ i, i < n → Rz enc w base spare held e ((List.range k).map (f i)) := by
  obtain ⟨fu, x, h, hz⟩ := h
  rcases Go.Deep.open_slice ht h with ⟨hcs, _⟩ | ⟨a, len, cap, m, n, D, Pl, hcs, _, hl, hm, hmm, hxe, hf⟩
  · injection hcs with hcs
    subst hcs
    exact ⟨none, 0, 0, fun _ _ => undef, 0, 0, rfl, ⟨Nat.zero_le _, fun h => absurd rfl h, fun i j hi => absurd hi (Nat.not_lt_zero _)⟩, fun _ => rfl, by rw [Nat.zero_mul]; exact Nat.zero_le _, fun i hi => absurd hi (Nat.not_lt_zero _)⟩
  · injection hcs with hcs
    subst hcs
    subst hxe
    simp only [DataW.weights, ht, List.mem_cons, List.mem_append] at hz
    have hlm : len ≤ m := by rw [hmm]; split <;> omega
    have hzl : len * Tryz.prog.bytesOf e ≤ reachBytes := by
      have := hz _ (.inl rfl)
      simp only [List.length_map, List.length_range] at this
      exact Nat.le_trans (Nat.mul_le_mul_right _ (by omega)) this
    have hze : ∀ i, i < len → ∀ q ∈ (D i).weights Tryz.prog e, q ≤ reachBytes := fun i hi q hq => hz q (.inr (.inl (weightsAll_mem (List.mem_map.2 ⟨i, List.mem_range.2 hi, rfl⟩) q hq)))
    rw [hk] at hf
    have each : ∀ i, i < len → ∃ g : Nat → Value, (∀ j, j < k → w.cell? (a.add (i * k + j)) = some (g j)) ∧ Rz enc w base spare held e ((List.range k).map g) := fun i hi => by
      obtain ⟨cs', h1, h2⟩ := hf i (by omega)
      obtain ⟨_, hlen, hcell⟩ := World.cells?_some h1
      have hc : (List.range k).map (fun j => cs'.getD j undef) = cs' := by
        apply List.ext_getElem
        · simp [hlen]
        · intro j h1 h2
          simp [List.getD, List.getElem?_eq_getElem h2]
      refine ⟨fun j => cs'.getD j undef, fun j hj => ?_, _, _, by rw [hc]; exact h2, hze i hi⟩
      have := hcell j hj
      rw [Go.Deep.add_add] at this
      rw [this]
      simp [List.getD, List.getElem?_eq_getElem (show j < cs'.length by omega)]
    obtain ⟨f, hf2⟩ := Go.Deep.choose_lt each
    by_cases h0 : len = 0
    · subst h0
      exact ⟨some a, 0, cap, f, 0, 0, rfl, ⟨Nat.zero_le _, fun h => absurd rfl h, fun i j hi => absurd hi (Nat.not_lt_zero _)⟩, fun h => (by cases h), hzl, fun i hi => absurd hi (Nat.not_lt_zero _)⟩
    · have ha := spot_of_cell' (by have := (hf2 0 (by omega)).1 0 hk0; rwa [Nat.zero_mul, Nat.zero_add] at this)
      have had : ∀ j, a.add j = ⟨a.block, a.off + j, none⟩ := fun j => by
        conv => lhs; rw [ha]
        unfold Addr.add
        split
        · rename_i h; subst h; rfl
        · rfl
      refine ⟨some a, len, cap, f, a.block, a.off, rfl, ⟨by unfold maxLen at hm; omega, fun _ => by rw [← ha], fun i j hi hj => ?_⟩, fun h => (by cases h), hzl, fun i hi => (hf2 i hi).2⟩
      have := (hf2 i hi).1 j hj
      rw [had] at this
      rw [Nat.add_assoc]
      exact this
theorem rz_string {v : Value} (h : Rz enc w base spare held 9 [v]) : ∃ s, v = .string s ∧ s.size ≤ reachBytes := by
  obtain ⟨n, x, h, hz⟩ := h
  obtain ⟨s, e, hx, _⟩ := DataW.trod_string Tryz.underlying9 h
  injection e with e
  refine ⟨s, e, ?_⟩
  rw [hx] at hz
  simp only [DataW.weights, List.mem_singleton] at hz
  have := hz _ rfl
  simpa using this
theorem rz_int {v : Value} (h : Rz enc w base spare held 3 [v]) : ∃ z : Int, v = .int .i64 z ∧ -9223372036854775808 ≤ z ∧ z ≤ 9223372036854775807 := by
  obtain ⟨n, x, h, _⟩ := h
  obtain ⟨z, e, _, hz⟩ := DataW.trod_int Tryz.underlying3 h
  injection e with e
  simp [Lit.wf, IntKind.min, IntKind.max, IntKind.signed, IntKind.bits] at hz
  exact ⟨z, e, by omega, by omega⟩
/-- a field of a struct -/
theorem rz_field {t : TypeId} {fs : Array Field} {cs : List Value} (ht : Tryz.prog.underlying t = some (.struct fs)) (h : Rz enc w base spare held t cs) (i : Nat) (f : Field) (hi : fs[i]? = some f) : cs.length = Tryz.prog.cellsOf t ∧ Rz enc w base spare held f.type ((cs.drop f.offset).take (Tryz.prog.cellsOf f.type)) := by
  obtain ⟨n, x, h, hz⟩ := h
  obtain ⟨xs, m, _, hx0, hl, hx, hf⟩ := DataW.trod_struct ht h
  have h1 := hf i f hi
  have hlt : i < xs.length := by rw [hx]; exact (Array.getElem?_eq_some_iff.1 hi).1
  rw [List.getElem?_eq_getElem hlt] at h1
  refine ⟨hl, m, _, h1, fun q hq => ?_⟩
  subst hx0
  simp only [DataW.weights, ht] at hz
  exact hz q (DataW.weights_mem_each (j := i) (by simp [hi]) (by simp [List.getElem?_eq_getElem hlt]) q hq)
theorem cStr' : Tryz.prog.cellsOf 9 = 1 := by kernel_rfl
end
end Go.Proofs.YtadhblppeaamlaaGreatDoor
