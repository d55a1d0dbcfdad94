/- How arguments that are a part, or values, are read. -/
import Derived.Test.YtadhblppeaamlaaGreatDoorQ26
import Derived.Test.YtadhblppeaamlaaGreatDoorQ24
namespace Go.Proofs.YtadhblppeaamlaaGreatDoor
open Go.ChangeShapes Go.WideShapes Go.RowKit
instance : Inhabited Vl := ⟨⟨.empty, 0, .empty, 0, []⟩⟩
theorem PartsT.up : ∀ {a b : Nat} {w : World} {v : Value}, PartsT a w v → a ≤ b → PartsT b w v
  | 0, _, _, _, h, _ => h.elim
  | a + 1, 0, _, _, _, hb => absurd hb (by omega)
  | a + 1, b + 1, _, _, h, hb => by
    obtain ⟨ad, n, c, f, bl, off, h1, h2, h3⟩ := h.open
    refine ⟨ad, n, c, f, bl, off, h1, h2, fun i hi => ?_⟩
    obtain ⟨g0, g1, g2, g3, ⟨ad4, n4, c4, f4, b4, o4, k1, k2, k3, k4, k5, k6⟩, g5⟩ := h3 i hi
    exact ⟨g0, g1, g2, g3, ⟨ad4, n4, c4, f4, b4, o4, k1, k2, k3, k4, k5, fun j hj => ⟨(k6 j hj).1, PartsT.up (k6 j hj).2 (by omega)⟩⟩, PartsT.up g5 (by omega)⟩
section
variable {H : Type} {enc : TypeId × Value → H} {w : World} {base : Nat} {spare : Nat → Bool} {held : Bool}
/-- a value that reads as data of a type, of a bounded size -/
abbrev Rzs (enc : TypeId × Value → H) (w : World) (base : Nat) (spare : Nat → Bool) (held : Bool) (N : Nat) (t : TypeId) (cs : List Value) : Prop :=
  ∃ n x, DataW.trod enc Tryz.prog w base spare held n t cs = some x ∧ SizeOf.sizeOf x.1 ≤ N ∧ ∀ m ∈ x.1.weights Tryz.prog t, m ≤ reachBytes
theorem Rzs.rz {N : Nat} {t : TypeId} {cs : List Value} (h : Rzs enc w base spare held N t cs) : Rz enc w base spare held t cs := by
  obtain ⟨n, x, h1, _, h3⟩ := h
  exact ⟨n, x, h1, h3⟩
theorem Rz.rzs {t : TypeId} {cs : List Value} (h : Rz enc w base spare held t cs) : ∃ N, Rzs enc w base spare held N t cs := by
  obtain ⟨n, x, h1, h3⟩ := h
  exact ⟨_, n, x, h1, Nat.le_refl _, h3⟩
theorem rzs_field {N : Nat} {t : TypeId} {fs : Array Field} {cs : List Value} (ht : Tryz.prog.underlying t = some (.struct fs)) (h : Rzs enc w base spare held N t cs) (i : Nat) (f : Field) (hi : fs[i]? = some f) : ∃ M, N = M + 1 ∧ Rzs enc w base spare held M f.type ((cs.drop f.offset).take (Tryz.prog.cellsOf f.type)) := by
  obtain ⟨n, x, h, hs, hz⟩ := h
  obtain ⟨xs, m, _, hx0, hl, hx, hf⟩ := DataW.trod_struct ht h
  have h1 := hf i f hi
  have hlt : i < xs.length := by rw [hx]; exact (Array.getElem?_eq_some_iff.1 hi).1
  rw [List.getElem?_eq_getElem hlt] at h1
  have hsz : SizeOf.sizeOf (xs[i]'hlt).1 < SizeOf.sizeOf x.1 := by
    rw [hx0]
    have h2 : SizeOf.sizeOf (xs[i]'hlt).1 < SizeOf.sizeOf (xs.map (·.1)) := List.sizeOf_lt_of_mem (List.mem_map.2 ⟨_, List.getElem_mem hlt, rfl⟩)
    simp only [DataW.agg.sizeOf_spec]
    omega
  refine ⟨N - 1, by omega, m, _, h1, by omega, fun q hq => ?_⟩
  subst hx0
  simp only [DataW.weights, ht] at hz
  exact hz q (DataW.weights_mem_each (j := i) (by simp [hi]) (by simp [List.getElem?_eq_getElem hlt]) q hq)
theorem rzs_rows {N : Nat} {t e : TypeId} {k : Nat} {v : Value} (ht : Tryz.prog.underlying t = some (.slice e)) (hk : Tryz.prog.cellsOf e = k) (hk0 : 0 < k) (h : Rzs enc w base spare held N t [v]) :
    ∃ ad n c, ∃ f : Nat → Nat → Value, ∃ b off, v = .slice ad n c ∧ Rw w ad n k f b off ∧ (ad = none → c = 0) ∧ n ≤ c ∧ n * Tryz.prog.bytesOf e ≤ reachBytes ∧ ∀ i, i < n → ∃ M, N = M + 1 ∧ Rzs enc w base spare held M e ((List.range k).map (f i)) := by
  have hcap := fun ad n c (e : v = .slice ad n c) => rz_cap (ad := ad) (n := n) (c := c) ht (by rw [← e]; exact h.rz)
  obtain ⟨fu, x, h, hs, hz⟩ := h
  rcases Go.Deep.open_slice ht h with ⟨hcs, _⟩ | ⟨a, len, cap, m, n, D, Pl, hcs, _, hl, hm, hmm, hxe, hf⟩
  · injection hcs with hcs
    subst hcs
    exact ⟨none, 0, 0, fun _ _ => undef, 0, 0, rfl, ⟨Nat.zero_le _, fun h => absurd rfl h, fun i j hi => absurd hi (Nat.not_lt_zero _)⟩, fun _ => rfl, Nat.le_refl _, by rw [Nat.zero_mul]; exact Nat.zero_le _, fun i hi => absurd hi (Nat.not_lt_zero _)⟩
  · injection hcs with hcs
    subst hcs
    subst hxe
    have hsz : ∀ i, i < len → SizeOf.sizeOf (D i) < N := fun i hi => by
      have h2 : SizeOf.sizeOf (D i) < SizeOf.sizeOf ((List.range len).map D) := List.sizeOf_lt_of_mem (List.mem_map.2 ⟨i, List.mem_range.2 hi, rfl⟩)
      simp only [DataW.slice.sizeOf_spec] at hs
      omega
    simp only [DataW.weights, ht, List.mem_cons, List.mem_append] at hz
    have hlm : len ≤ m := by rw [hmm]; split <;> omega
    have hzl : len * Tryz.prog.bytesOf e ≤ reachBytes := by
      have := hz _ (.inl rfl)
      simp only [List.length_map, List.length_range] at this
      exact Nat.le_trans (Nat.mul_le_mul_right _ (by omega)) this
    have hze : ∀ i, i < len → ∀ q ∈ (D i).weights Tryz.prog e, q ≤ reachBytes := fun i hi q hq => hz q (.inr (.inl (weightsAll_mem (List.mem_map.2 ⟨i, List.mem_range.2 hi, rfl⟩) q hq)))
    rw [hk] at hf
    have each : ∀ i, i < len → ∃ g : Nat → Value, (∀ j, j < k → w.cell? (a.add (i * k + j)) = some (g j)) ∧ ∃ M, N = M + 1 ∧ Rzs enc w base spare held M e ((List.range k).map g) := fun i hi => by
      obtain ⟨cs', h1, h2⟩ := hf i (by omega)
      obtain ⟨_, hlen, hcell⟩ := World.cells?_some h1
      have hc : (List.range k).map (fun j => cs'.getD j undef) = cs' := by
        apply List.ext_getElem
        · simp [hlen]
        · intro j h1 h2
          simp [List.getD, List.getElem?_eq_getElem h2]
      have hsi := hsz i hi
      refine ⟨fun j => cs'.getD j undef, fun j hj => ?_, N - 1, by omega, _, _, by rw [hc]; exact h2, by show SizeOf.sizeOf (D i) ≤ _; omega, hze i hi⟩
      have := hcell j hj
      rw [Go.Deep.add_add] at this
      rw [this]
      simp [List.getD, List.getElem?_eq_getElem (show j < cs'.length by omega)]
    obtain ⟨f, hf2⟩ := Go.Deep.choose_lt each
    by_cases h0 : len = 0
    · subst h0
      exact ⟨some a, 0, cap, f, 0, 0, rfl, ⟨Nat.zero_le _, fun h => absurd rfl h, fun i j hi => absurd hi (Nat.not_lt_zero _)⟩, fun h => (by cases h), hcap _ _ _ rfl, hzl, fun i hi => absurd hi (Nat.not_lt_zero _)⟩
    · have ha := spot_of_cell' (by have := (hf2 0 (by omega)).1 0 hk0; rwa [Nat.zero_mul, Nat.zero_add] at this)
      have had : ∀ j, a.add j = ⟨a.block, a.off + j, none⟩ := fun j => by
        conv => lhs; rw [ha]
        unfold Addr.add
        split
        · rename_i h; subst h; rfl
        · rfl
      refine ⟨some a, len, cap, f, a.block, a.off, rfl, ⟨by unfold maxLen at hm; omega, fun _ => by rw [← ha], fun i j hi hj => ?_⟩, fun h => (by cases h), hcap _ _ _ rfl, hzl, fun i hi => (hf2 i hi).2⟩
      have := (hf2 i hi).1 j hj
      rw [had] at this
      rw [Nat.add_assoc]
      exact this
theorem strM_of {v : Value} (h : Rz enc w base spare held 9 [v]) : StrM v := by
  obtain ⟨s, e, hs⟩ := rz_string h
  exact ⟨s, e, Nat.le_trans hs (by decide)⟩
theorem caseBytes : Tryz.prog.bytesOf 44 = 40 := by kernel_rfl
theorem parts_of : ∀ (N : Nat) (v : Value), Rzs enc w base spare held N 32 [v] → PartsT N w v := by
  intro N
  induction N using Nat.strongRecOn with
  | _ N ih =>
    intro v h
    match N, h with
    | 0, h =>
      obtain ⟨_, x, _, hs, _⟩ := h
      exfalso
      cases hx : x.1 <;> rw [hx] at hs <;> simp at hs
    | N + 1, h =>
      obtain ⟨ad, n, c, f, b, off, hv, hr, hz, hc, hl, he⟩ := rzs_rows Tryz.underlying32 (k := 6) (by kernel_rfl) (by omega) h
      refine ⟨ad, n, c, f, b, off, hv, hr, fun i hi => ?_⟩
      obtain ⟨M, hM, hp⟩ := he i hi
      obtain rfl : N = M := by omega
      obtain ⟨z0, e0, _⟩ := rz_int (enc := enc) (w := w) (base := base) (spare := spare) (held := held) (v := f i 0) (by
        have this : Rz enc w base spare held 3 ((((List.range 6).map (f i)).drop 0).take (Tryz.prog.cellsOf 3)) := (rz_field Tryz.underlying34 hp.rz 0 _ rfl).2
        rw [show Tryz.prog.cellsOf 3 = 1 by kernel_rfl] at this
        exact this)
      have s1 := strM_of (enc := enc) (w := w) (base := base) (spare := spare) (held := held) (v := f i 1) (by
        have this : Rz enc w base spare held 9 ((((List.range 6).map (f i)).drop 1).take (Tryz.prog.cellsOf 9)) := (rz_field Tryz.underlying34 hp.rz 1 _ rfl).2
        rw [show Tryz.prog.cellsOf 9 = 1 by kernel_rfl] at this
        exact this)
      have s2 := strM_of (enc := enc) (w := w) (base := base) (spare := spare) (held := held) (v := f i 2) (by
        have this : Rz enc w base spare held 9 ((((List.range 6).map (f i)).drop 2).take (Tryz.prog.cellsOf 9)) := (rz_field Tryz.underlying34 hp.rz 2 _ rfl).2
        rw [show Tryz.prog.cellsOf 9 = 1 by kernel_rfl] at this
        exact this)
      have s3 := strM_of (enc := enc) (w := w) (base := base) (spare := spare) (held := held) (v := f i 3) (by
        have this : Rz enc w base spare held 9 ((((List.range 6).map (f i)).drop 3).take (Tryz.prog.cellsOf 9)) := (rz_field Tryz.underlying34 hp.rz 3 _ rfl).2
        rw [show Tryz.prog.cellsOf 9 = 1 by kernel_rfl] at this
        exact this)
      obtain ⟨M5, hM5, h5⟩ := rzs_field Tryz.underlying34 hp 5 _ rfl
      have h5' : Rzs enc w base spare held M5 32 [f i 5] := by
        have this : Rzs enc w base spare held M5 32 ((((List.range 6).map (f i)).drop 5).take (Tryz.prog.cellsOf 32)) := h5
        rw [show Tryz.prog.cellsOf 32 = 1 by kernel_rfl] at this
        exact this
      obtain ⟨M4, hM4, h4⟩ := rzs_field Tryz.underlying34 hp 4 _ rfl
      have h4' : Rzs enc w base spare held M4 31 [f i 4] := by
        have this : Rzs enc w base spare held M4 31 ((((List.range 6).map (f i)).drop 4).take (Tryz.prog.cellsOf 31)) := h4
        rw [show Tryz.prog.cellsOf 31 = 1 by kernel_rfl] at this
        exact this
      refine ⟨⟨z0, e0⟩, s1, s2, s3, ?_, (ih M5 (by omega) _ h5').up (by omega)⟩
      obtain ⟨ad4, n4, c4, f4, b4, off4, hv4, hr4, hz4, hc4, hl4, he4⟩ := rzs_rows Tryz.underlying31 (k := 2) (by kernel_rfl) (by omega) h4'
      rw [caseBytes, show reachBytes = 140737488351232 from rfl] at hl4
      refine ⟨ad4, n4, c4, f4, b4, off4, hv4, hr4, hz4, hc4, hl4, fun j hj => ?_⟩
      obtain ⟨M6, hM6, h6⟩ := he4 j hj
      have t0 := strM_of (enc := enc) (w := w) (base := base) (spare := spare) (held := held) (v := f4 j 0) (by
        have this : Rz enc w base spare held 9 ((((List.range 2).map (f4 j)).drop 0).take (Tryz.prog.cellsOf 9)) := (rz_field Tryz.underlying44 h6.rz 0 _ rfl).2
        rw [show Tryz.prog.cellsOf 9 = 1 by kernel_rfl] at this
        exact this)
      obtain ⟨M7, hM7, h7⟩ := rzs_field Tryz.underlying44 h6 1 _ rfl
      have h7' : Rzs enc w base spare held M7 32 [f4 j 1] := by
        have this : Rzs enc w base spare held M7 32 ((((List.range 2).map (f4 j)).drop 1).take (Tryz.prog.cellsOf 32)) := h7
        rw [show Tryz.prog.cellsOf 32 = 1 by kernel_rfl] at this
        exact this
      exact ⟨t0, (ih M7 (by omega) _ h7').up (by omega)⟩
/-- a part, by its six cells -/
theorem part_cells {cs : List Value} (h : Rz enc w base spare held 34 cs) : ∃ (p : Nat → Value) (d : Nat) (kind : Int) (name : ByteArray) (keys : List ByteArray), cs = [p 0, p 1, p 2, p 3, p 4, p 5] ∧ PartK d w p kind name keys := by
  have hl : cs.length = 6 := (rz_field Tryz.underlying34 h 0 _ rfl).1.trans (by kernel_rfl)
  match cs, hl with
  | [x0, x1, x2, x3, x4, x5], _ =>
    obtain ⟨N, hN⟩ := h.rzs
    -- one part, read as the elements of a list are
    obtain ⟨z0, e0, _⟩ := rz_int (enc := enc) (w := w) (base := base) (spare := spare) (held := held) (v := x0) (by
      have this : Rz enc w base spare held 3 ((([x0, x1, x2, x3, x4, x5] : List Value).drop 0).take (Tryz.prog.cellsOf 3)) := (rz_field Tryz.underlying34 h 0 _ rfl).2
      rw [show Tryz.prog.cellsOf 3 = 1 by kernel_rfl] at this
      exact this)
    have s1 := strM_of (enc := enc) (w := w) (base := base) (spare := spare) (held := held) (v := x1) (by
      have this : Rz enc w base spare held 9 ((([x0, x1, x2, x3, x4, x5] : List Value).drop 1).take (Tryz.prog.cellsOf 9)) := (rz_field Tryz.underlying34 h 1 _ rfl).2
      rw [show Tryz.prog.cellsOf 9 = 1 by kernel_rfl] at this
      exact this)
    have s2 := strM_of (enc := enc) (w := w) (base := base) (spare := spare) (held := held) (v := x2) (by
      have this : Rz enc w base spare held 9 ((([x0, x1, x2, x3, x4, x5] : List Value).drop 2).take (Tryz.prog.cellsOf 9)) := (rz_field Tryz.underlying34 h 2 _ rfl).2
      rw [show Tryz.prog.cellsOf 9 = 1 by kernel_rfl] at this
      exact this)
    have s3 := strM_of (enc := enc) (w := w) (base := base) (spare := spare) (held := held) (v := x3) (by
      have this : Rz enc w base spare held 9 ((([x0, x1, x2, x3, x4, x5] : List Value).drop 3).take (Tryz.prog.cellsOf 9)) := (rz_field Tryz.underlying34 h 3 _ rfl).2
      rw [show Tryz.prog.cellsOf 9 = 1 by kernel_rfl] at this
      exact this)
    obtain ⟨M5, _, h5⟩ := rzs_field Tryz.underlying34 hN 5 _ rfl
    have h5' : Rzs enc w base spare held M5 32 [x5] := by
      have this : Rzs enc w base spare held M5 32 ((([x0, x1, x2, x3, x4, x5] : List Value).drop 5).take (Tryz.prog.cellsOf 32)) := h5
      rw [show Tryz.prog.cellsOf 32 = 1 by kernel_rfl] at this
      exact this
    obtain ⟨M4, _, h4⟩ := rzs_field Tryz.underlying34 hN 4 _ rfl
    have h4' : Rzs enc w base spare held M4 31 [x4] := by
      have this : Rzs enc w base spare held M4 31 ((([x0, x1, x2, x3, x4, x5] : List Value).drop 4).take (Tryz.prog.cellsOf 31)) := h4
      rw [show Tryz.prog.cellsOf 31 = 1 by kernel_rfl] at this
      exact this
    have hcases : CasesT (PartsT (M4 + M5)) w x4 := by
      obtain ⟨ad4, n4, c4, f4, b4, off4, hv4, hr4, hz4, hc4, hl4, he4⟩ := rzs_rows Tryz.underlying31 (k := 2) (by kernel_rfl) (by omega) h4'
      rw [caseBytes, show reachBytes = 140737488351232 from rfl] at hl4
      refine ⟨ad4, n4, c4, f4, b4, off4, hv4, hr4, hz4, hc4, hl4, fun j hj => ?_⟩
      obtain ⟨M6, hM6, h6⟩ := he4 j hj
      have t0 := strM_of (enc := enc) (w := w) (base := base) (spare := spare) (held := held) (v := f4 j 0) (by
        have this : Rz enc w base spare held 9 ((((List.range 2).map (f4 j)).drop 0).take (Tryz.prog.cellsOf 9)) := (rz_field Tryz.underlying44 h6.rz 0 _ rfl).2
        rw [show Tryz.prog.cellsOf 9 = 1 by kernel_rfl] at this
        exact this)
      obtain ⟨M7, hM7, h7⟩ := rzs_field Tryz.underlying44 h6 1 _ rfl
      have h7' : Rzs enc w base spare held M7 32 [f4 j 1] := by
        have this : Rzs enc w base spare held M7 32 ((((List.range 2).map (f4 j)).drop 1).take (Tryz.prog.cellsOf 32)) := h7
        rw [show Tryz.prog.cellsOf 32 = 1 by kernel_rfl] at this
        exact this
      exact ⟨t0, (parts_of M7 _ h7').up (by omega)⟩
    have hpc : PartC (PartsT (M4 + M5)) w (fun i => ([x0, x1, x2, x3, x4, x5] : List Value).getD i undef) := ⟨⟨z0, e0⟩, s1, s2, s3, hcases, (parts_of M5 _ h5').up (by omega)⟩
    obtain ⟨kind, name, keys, hk⟩ := part_k hpc
    exact ⟨_, _, kind, name, keys, rfl, hk⟩
/-- values -/
theorem vals_of {v : Value} (h : Rz enc w base spare held 35 [v]) : ∃ l, ValsAt w v l :=
  rowsOf_of Tryz.underlying35 (k := 5) (by kernel_rfl) (by omega) (of_decide_eq_true (by kernel_rfl)) h fun _ hg => val_of hg
end
end Go.Proofs.YtadhblppeaamlaaGreatDoor
