/- Walks: the best pattern, by the program. -/
import Derived.Test.YtaolbfbnjbpljaaDoorQ05
import Derived.Test.YtaolbfbnjbpljaaDoorQ04
namespace Go.Proofs.YtaolbfbnjbpljaaDoor
open Go.RowKit Go.Maps
attribute [local go_sem] Ext.cell Ext.frozen
attribute [local go_sem ↓] Go.wp_at_zero Go.wp_at_succ

/-- a slice of pairs of strings, from block b, offset off on -/
structure PatAt (w : World) (ad : Option Addr) (n : Nat) (ps : List (List UInt8 × List UInt8)) (b off : Nat) : Prop where
  len : ps.length = n
  max : n ≤ 9223372036854775807
  adr : n ≠ 0 → ad = some ⟨b, off, none⟩
  c0 : ∀ i (_h : i < n), w.cell? ⟨b, off + i * 2, none⟩ = some (.string (bs (ps.getD i ([], [])).1))
  c1 : ∀ i (_h : i < n), w.cell? ⟨b, off + i * 2 + 1, none⟩ = some (.string (bs (ps.getD i ([], [])).2))
theorem PatAt.block {w : World} {ad : Option Addr} {n : Nat} {ps} {b off : Nat} (h : PatAt w ad n ps b off) (hn : n ≠ 0) : b < w.heap.size :=
  World.block_lt_of_cell? w _ (h.c0 0 (by omega))
theorem PatAt.below {w w' : World} {ad : Option Addr} {n : Nat} {ps} {b off : Nat} (h : PatAt w ad n ps b off) (hb : Below w.heap.size w w') : PatAt w' ad n ps b off :=
  ⟨h.len, h.max, h.adr, fun i hi => by rw [hb.cell (p := ⟨b, off + i * 2, none⟩) (h.block (by omega))]; exact h.c0 i hi,
    fun i hi => by rw [hb.cell (p := ⟨b, off + i * 2 + 1, none⟩) (h.block (by omega))]; exact h.c1 i hi⟩
theorem cellsPat : Tryd.prog.cellsOf 39 = 2 := by kernel_rfl
theorem PatAt.ix {w : World} {ad : Option Addr} {n c : Nat} {ps} {b off k : Nat} (h : PatAt w ad n ps b off) (hk : k < n) (W : World) :
    (Instr.indexAt 35 (.slice ad n c) (.int .i64 (k : Int))).run Tryd.prog W = .ok (.pointer (some ⟨b, off + k * 2, none⟩)) W := by
  rw [h.adr (by omega)]
  have hel : Tryd.prog.elem 35 = 39 := by simp [Program.elem, Tryd.underlying35]
  rw [run_indexAt_slice W 35 _ n c .i64 k (by rw [hel]; exact Tryd.underlying35), hel, if_pos (by omega)]
  have hs : (sizeOf 39).run Tryd.prog W = .ok 2 W := by
    have hE := cellsPat
    unfold Program.cellsOf at hE
    cases hi : Tryd.prog.info? 39 with
    | none => simp [hi] at hE
    | some i => simp [hi] at hE; simp [sizeOf, typeInfo, hi, hE]
  rw [hs]
  simp [Result.andThen, Addr.add]

/-- the best so far -/
def bstep (want : List (List UInt8)) (i : Nat) (p : List UInt8) (st : Int × Int) : Int × Int :=
  match fieldsV p with
  | none => st
  | some hv => if (distV want hv).2 = true ∧ (st.1 < 0 ∨ (distV want hv).1 < st.2) then ((i : Int), (distV want hv).1) else st
def bst (want : List (List UInt8)) (ps : List (List UInt8 × List UInt8)) : Nat → Int × Int
  | 0 => (-1, 0)
  | k + 1 => bstep want k (ps.getD k ([], [])).1 (bst want ps k)
/-- what Best answers -/
def bestV (ps : List (List UInt8 × List UInt8)) (s : List UInt8) : Int × Nat :=
  match fieldsV s with
  | none => (0, 3)
  | some want => if (bst want ps ps.length).1 < 0 then (0, 8) else ((bst want ps ps.length).1, 0)
theorem distV_bd {fs gs : List (List UInt8)} (hf : ∀ f ∈ fs, f.length ≤ 3) (hg : ∀ g ∈ gs, g.length ≤ 3) : 0 ≤ (distV fs gs).1 ∧ (distV fs gs).1 ≤ 3 * (fs.length : Int) := by
  unfold distV
  split
  · exact sumD_bd hg hf
  · simp; omega
theorem bst_bd {want : List (List UInt8)} (hw : ∀ f ∈ want, f.length ≤ 3) (hw4 : want.length ≤ 4) (ps : List (List UInt8 × List UInt8)) : ∀ k, -1 ≤ (bst want ps k).1 ∧ (bst want ps k).1 ≤ (k : Int) ∧ 0 ≤ (bst want ps k).2 ∧ (bst want ps k).2 ≤ 12
  | 0 => by simp [bst]
  | k + 1 => by
    have ih := bst_bd hw hw4 ps k
    rw [bst]
    unfold bstep
    cases h : fieldsV (ps.getD k ([], [])).1 with
    | none => simp only; omega
    | some hv =>
      simp only
      have h1 := distV_bd hw (fun g hg => (fld_facts ((fieldsV_some h).2.2 g hg)).2)
      split
      · simp only; omega
      · omega

set_option maxRecDepth 20000 in
set_option maxHeartbeats 16000000 in
theorem best_any (ad : Option Addr) (n c : Nat) (ps : List (List UInt8 × List UInt8)) (b off : Nat) (s : ByteArray) (w : World) (hp : PatAt w ad n ps b off) (hs : s.size ≤ 1000) (hps : ∀ p ∈ ps, p.1.length ≤ 1000) :
    Calls Tryd.prog 20 #[.slice ad n c, .string s] w fun e w' => e = .returned (.tuple #[.int .i64 (bestV ps s.data.toList).1, .int .i64 ((bestV ps s.data.toList).2 : Nat)]) ∧ Below w.heap.size w w' := by
  have HLE := Lib.hid (fun w => lengths_any s w hs)
  have HP := Lib.hid hp
  have HPL : Hid (∀ k, k < n → ∀ w, Calls Tryd.prog 43 #[.string (bs (ps.getD k ([], [])).1)] w (LenPost (ps.getD k ([], [])).1 w)) := fun k hk w => by
    have hkl : k < ps.length := by rw [hp.len]; exact hk
    have := lengths_any (bs (ps.getD k ([], [])).1) w (by rw [bs_size]; exact hps _ (getD_mem ps k _ hkl))
    rwa [bs_data] at this
  have hnm := hp.max
  have HLN := Lib.hid hp.len
  have hbl : n ≠ 0 → b < w.heap.size := fun h => hp.block h
  clear hp hps
  go_enter Tryd.func20, Tryd.ntmps20
  go_wp2_with fail
  refine (HLE.out _).mono ?_
  rintro e w1 ⟨hb1, hf1⟩
  have HB1 := Lib.hid hb1
  have hz1 := hb1.size
  clear hb1
  rcases hf1 with ⟨hv1, rfl⟩ | ⟨want, B, hv1, rfl, hwB, hown1⟩
  · have HO : Hid (bestV ps s.data.toList = (0, 3)) := by unfold Hid bestV; rw [hv1]
    clear hv1
    go_wp2_with fail
    go_ret2
    exact ⟨by rw [HO.out]; rfl, HB1.out⟩
  · obtain ⟨_, hw4, hwf⟩ := fieldsV_some hv1
    have HWF : Hid (∀ f ∈ want, f.length ≤ 3) := fun f hf => (fld_facts (hwf f hf)).2
    have HWN := Lib.hid (fieldsV_nodup hv1)
    have HBD := Lib.hid (fun k => bst_bd HWF.out hw4 ps k)
    have HO : Hid (bestV ps s.data.toList = if (bst want ps n).1 < 0 then (0, 8) else ((bst want ps n).1, 0)) := by unfold Hid bestV; rw [hv1, HLN.out]
    have HM := Lib.hid hown1
    have hBl : B < w1.heap.size := World.ownsMap.lt hown1
    have HP1 := Lib.hid (HP.out.below HB1.out)
    clear hv1 hown1 hwf
    go_wp2_with fail
    go_loopw [8, 9, 25] (fun u v i wr => ∃ k : Nat, k ≤ n ∧ i = .int .i64 (k : Int) ∧ u = .int .i64 (bst want ps k).1 ∧ v = .int .i64 (bst want ps k).2 ∧ Below w1.heap.size w1 wr) (fun _ _ i _ => n - (intOf i).toNat)
    case atStart => exact ⟨0, Nat.zero_le _, rfl, rfl, rfl, Below.refl _ _⟩
    case round =>
      obtain ⟨k, hkn, rfl, rfl, rfl, hb⟩ := hrel
      have HB := Lib.hid hb
      have hzr := hb.size
      clear hb
      obtain ⟨d1, d2, d3, d4⟩ := HBD.out k
      by_cases hlt : k < n
      · have HPW := Lib.hid (HP1.out.below HB.out)
        have hix := fun W => HPW.out.ix (c := c) hlt W
        have h0 := HPW.out.c0 k hlt
        have h1 := HPW.out.c1 k hlt
        have hbw : b < wr.heap.size := by have := hbl (by omega); omega
        have HLK := Lib.hid (HPL.out k hlt)
        have HST : Hid (bst want ps (k + 1) = bstep want k (ps.getD k ([], [])).1 (bst want ps k)) := rfl
        generalize ps.getD k ([], []) = p at *
        obtain ⟨p1, p2⟩ := p
        simp only at h0 h1 HLK HST
        obtain ⟨st1, hst1⟩ : ∃ st1, bst want ps (k + 1) = st1 := ⟨_, rfl⟩
        rw [hst1] at HST
        have HSE := Lib.hid hst1
        clear hst1
        generalize bst want ps k = st0 at *
        obtain ⟨best, least⟩ := st0
        simp only at d1 d2 d3 d4 HST ⊢
        go_wp2_with fail
        refine (HLK.out _).mono ?_
        rintro e w2 ⟨hb2, hf2⟩
        have hz2 := hb2.size
        (try simp at hz2)
        have HB2 : Hid (Below w1.heap.size w1 w2) := by
          refine HB.out.trans (Below.mono (B := wr.heap.size) ?_ hzr)
          exact Below.trans (by (show Bel wr _; (repeat (first | exact Bel.refl _ | refine Bel.alloc ?_ _ | refine Bel.setCell ?_ _ _ ?_ | exact Nat.le_refl _ | (simp; done) | omega)))) (hb2.mono (by simp))
        clear hb2
        have hz3 := HB2.out.size
        rcases hf2 with ⟨hv2, rfl⟩ | ⟨hv, C, hv2, rfl, hwC, hown2⟩
        · have HS2 : Hid (st1 = (best, least)) := by unfold Hid; rw [HST.out]; unfold bstep; rw [hv2]
          clear hv2
          go_wp2_with fail
          go_roundw
          case rel => exact ⟨k + 1, by omega, by go_num, by rw [HSE.out, HS2.out], by rw [HSE.out, HS2.out], HB2.out⟩
          case measure => simp [intOf]; omega
        · obtain ⟨_, hh4, hhf⟩ := fieldsV_some hv2
          have HHF : Hid (∀ f ∈ hv, f.length ≤ 3) := fun f hf => (fld_facts (hhf f hf)).2
          have HHN := Lib.hid (fieldsV_nodup hv2)
          have HMB : Hid (MapAt w2 B want.length want) := MapAt.kept HM.out HB2.out
          have HMC := Lib.hid hown2
          have HS2 : Hid (st1 = if (distV want hv).2 = true ∧ (best < 0 ∨ (distV want hv).1 < least) then ((k : Int), (distV want hv).1) else (best, least)) := by unfold Hid; rw [HST.out]; unfold bstep; rw [hv2]
          have hdb := distV_bd HWF.out HHF.out
          have HDI := Lib.hid (fun W h1 h2 => distance_any B C want hv W h1 h2 HWN.out HHN.out HWF.out HHF.out hw4 hh4)
          clear hv2 hown2 hhf HST HLK
          generalize distV want hv = dvf at *
          obtain ⟨dv, fits⟩ := dvf
          simp only at hdb HS2 HDI
          obtain ⟨hd1, hd2⟩ := hdb
          have hd3 : dv ≤ 12 := by omega
          go_wp2_with fail
          refine (Calls.toExt (HDI.out _ HMB.out HMC.out)).mono ?_
          rintro e _ ⟨rfl, x, rfl⟩
          have HB3 := Lib.hid (HB2.out.trans (x.2.mono hz3))
          cases fits with
          | false =>
            have HS3 : Hid (st1 = (best, least)) := by unfold Hid; rw [HS2.out, if_neg (by simp)]
            go_wp2_with fail
            go_roundw
            case rel => exact ⟨k + 1, by omega, by go_num, by rw [HSE.out, HS3.out], by rw [HSE.out, HS3.out], HB3.out⟩
            case measure => simp [intOf]; omega
          | true =>
            by_cases hb0 : best < 0
            · have HS3 : Hid (st1 = ((k : Int), dv)) := by unfold Hid; rw [HS2.out, if_pos ⟨rfl, .inl hb0⟩]
              go_wp2_with fail
              go_roundw
              case rel => exact ⟨k + 1, by omega, by go_num, by rw [HSE.out, HS3.out], by rw [HSE.out, HS3.out], HB3.out⟩
              case measure => simp [intOf]; omega
            · by_cases hdl : dv < least
              · have HS3 : Hid (st1 = ((k : Int), dv)) := by unfold Hid; rw [HS2.out, if_pos ⟨rfl, .inr hdl⟩]
                go_wp2_with fail
                go_roundw
                case rel => exact ⟨k + 1, by omega, by go_num, by rw [HSE.out, HS3.out], by rw [HSE.out, HS3.out], HB3.out⟩
                case measure => simp [intOf]; omega
              · have HS3 : Hid (st1 = (best, least)) := by unfold Hid; rw [HS2.out, if_neg (fun h => h.2.elim hb0 hdl)]
                go_wp2_with fail
                go_roundw
                case rel => exact ⟨k + 1, by omega, by go_num, by rw [HSE.out, HS3.out], by rw [HSE.out, HS3.out], HB3.out⟩
                case measure => simp [intOf]; omega
      · obtain rfl : k = n := by omega
        generalize bst want ps k = st0 at *
        obtain ⟨best, least⟩ := st0
        simp only at d1 d2 d3 d4 HO ⊢
        have HBF := Lib.hid (HB1.out.trans (HB.out.mono hz1))
        by_cases hb0 : best < 0
        · have HR : Hid (bestV ps s.data.toList = (0, 8)) := by unfold Hid; rw [HO.out, if_pos hb0]
          go_wp2_with fail
          go_ret2
          exact ⟨by rw [HR.out]; rfl, HBF.out⟩
        · have HR : Hid (bestV ps s.data.toList = (best, 0)) := by unfold Hid; rw [HO.out, if_neg hb0]
          go_wp2_with fail
          go_ret2
          exact ⟨by rw [HR.out]; rfl, HBF.out⟩
end Go.Proofs.YtaolbfbnjbpljaaDoor
/- Plain: when a pattern fits a skeleton. -/
namespace Go.Proofs.YtaolbfbnjbpljaaDoor

theorem heads_hds (fs : List (List UInt8)) : headsL fs = hds fs := rfl
theorem le_tr {a b c : List UInt8} (h1 : a ≤ b) (h2 : b ≤ c) : a ≤ c := List.le_trans h1 h2
theorem sort_sorted (l : List (List UInt8)) : (sortL l).Pairwise (· ≤ ·) := by
  have := List.pairwise_mergeSort (le := fun x y : List UInt8 => decide (x ≤ y)) (fun a b c h1 h2 => by
    simp only [decide_eq_true_eq] at *; exact le_tr h1 h2) (fun a b => by
    simp only [Bool.or_eq_true, decide_eq_true_eq]; exact List.le_total a b) l
  exact this.imp (fun h => by simpa using h)
theorem sort_mem {l : List (List UInt8)} {x : List UInt8} : x ∈ sortL l ↔ x ∈ l := List.mem_mergeSort
theorem lt_of {a b : List UInt8} (h : a ≤ b) (hne : a ≠ b) : a < b := by
  rcases Classical.em (a < b) with h1 | h1
  · exact h1
  · exact absurd (List.le_antisymm h (List.not_lt.1 h1)) hne
theorem upTo_facts (d : Array (List UInt8)) (hs : ∀ i j, i ≤ j → j < d.size → d[i]! ≤ d[j]!) : ∀ m, m ≤ d.size →
    (∀ x ∈ Lib.compactUpTo d m, ∃ j, j < m ∧ d[j]! = x) ∧ (∀ j, j < m → d[j]! ∈ Lib.compactUpTo d m) ∧ (Lib.compactUpTo d m).Pairwise (· < ·)
  | 0, _ => by simp [Lib.compactUpTo]
  | m + 1, hm => by
    obtain ⟨h1, h2, h3⟩ := upTo_facts d hs m (by omega)
    rw [Lib.compactUpTo_succ]
    by_cases hk : Lib.keeps d m = true
    · rw [if_pos hk]
      refine ⟨?_, ?_, ?_⟩
      · intro x hx
        rcases List.mem_append.1 hx with hx | hx
        · obtain ⟨j, hj, e⟩ := h1 x hx; exact ⟨j, by omega, e⟩
        · exact ⟨m, by omega, (List.mem_singleton.1 hx).symm⟩
      · intro j hj
        rw [List.mem_append]
        by_cases e : j = m
        · subst e; exact .inr (by simp)
        · exact .inl (h2 j (by omega))
      · rw [List.pairwise_append]
        refine ⟨h3, by simp, ?_⟩
        intro x hx y hy
        rw [List.mem_singleton.1 hy]
        obtain ⟨j, hj, e⟩ := h1 x hx
        rw [← e]
        have hle := hs j (m - 1) (by omega) (by omega)
        have hle2 := hs (m - 1) m (by omega) (by omega)
        have hne : d[m]! ≠ d[m - 1]! := by
          unfold Lib.keeps at hk
          simp only [decide_eq_true_eq] at hk
          rcases hk with h0 | h0
          · omega
          · exact h0
        rcases Classical.em (d[j]! = d[m]!) with e2 | e2
        · have : d[m - 1]! = d[m]! := List.le_antisymm hle2 (by rw [← e2]; exact hle)
          exact absurd this.symm hne
        · exact lt_of (le_tr hle hle2) e2
    · rw [if_neg hk, List.append_nil]
      refine ⟨fun x hx => by obtain ⟨j, hj, e⟩ := h1 x hx; exact ⟨j, by omega, e⟩, ?_, h3⟩
      intro j hj
      by_cases e : j = m
      · subst e
        unfold Lib.keeps at hk
        simp only [decide_eq_true_eq, not_or] at hk
        have he : d[j]! = d[j - 1]! := Classical.byContradiction fun h => hk.2 h
        rw [he]
        exact h2 (j - 1) (by omega)
      · exact h2 j (by omega)
theorem comp_facts {l : List (List UInt8)} (hs : l.Pairwise (· ≤ ·)) : (∀ x, x ∈ Lib.compact l ↔ x ∈ l) ∧ (Lib.compact l).Pairwise (· < ·) := by
  have h := upTo_facts l.toArray (fun i j hij hj => by
    have hj' : j < l.length := by simpa using hj
    have hi' : i < l.length := by omega
    simp only [List.getElem!_toArray, getElem!_pos l i hi', getElem!_pos l j hj']
    rcases Nat.lt_or_eq_of_le hij with h | h
    · exact List.pairwise_iff_getElem.1 hs i j hi' hj' h
    · subst h; exact List.le_refl _) l.length (by simp)
  refine ⟨fun x => ⟨fun hx => compact_mem hx, fun hx => ?_⟩, h.2.2⟩
  obtain ⟨j, hj, e⟩ := List.mem_iff_getElem.1 hx
  have := h.2.1 j hj
  simp only [List.getElem!_toArray, getElem!_pos l j hj] at this
  rw [← e]; exact this
theorem strict_eq : ∀ {A B : List (List UInt8)}, A.Pairwise (· < ·) → B.Pairwise (· < ·) → (∀ x, x ∈ A ↔ x ∈ B) → A = B
  | [], [], _, _, _ => rfl
  | [], b :: B, _, _, h => by have := (h b).2 (by simp); cases this
  | a :: A, [], _, _, h => by have := (h a).1 (by simp); cases this
  | a :: A, b :: B, hA, hB, h => by
    rw [List.pairwise_cons] at hA hB
    have e : a = b := by
      rcases List.mem_cons.1 ((h a).1 (by simp)) with e | e
      · exact e
      · rcases List.mem_cons.1 ((h b).2 (by simp)) with e2 | e2
        · exact e2.symm
        · exact absurd (List.lt_trans (hB.1 a e) (hA.1 b e2)) (List.lt_irrefl _)
    subst e
    rw [strict_eq hA.2 hB.2 fun x => ⟨fun hx => by
      rcases List.mem_cons.1 ((h x).1 (by simp [hx])) with e | e
      · subst e; exact absurd (hA.1 x hx) (List.lt_irrefl _)
      · exact e, fun hx => by
      rcases List.mem_cons.1 ((h x).2 (by simp [hx])) with e | e
      · subst e; exact absurd (hB.1 x hx) (List.lt_irrefl _)
      · exact e⟩]
theorem single_flat : ∀ {A : List (List UInt8)}, (∀ x ∈ A, x.length = 1) → A = A.flatten.map fun c => [c]
  | [], _ => rfl
  | x :: A, h => by
    have h1 := h x (by simp)
    match x, h1 with
    | [c], _ =>
      have ih := single_flat (A := A) (fun y hy => h y (by simp [hy]))
      rw [List.flatten_cons, List.map_append, ← ih]; rfl
/-- the kinds of two lists of fields are the same -/
theorem kinds_same {fs gs : List (List UInt8)} (hf : ∀ f ∈ fs, 1 ≤ f.length) (hg : ∀ g ∈ gs, 1 ≤ g.length) : (kindsV fs).1 = (kindsV gs).1 ↔ ∀ x, x ∈ hds fs ↔ x ∈ hds gs := by
  have cf := comp_facts (sort_sorted (headsL fs))
  have cg := comp_facts (sort_sorted (headsL gs))
  have l1 : ∀ {fs : List (List UInt8)}, (∀ f ∈ fs, 1 ≤ f.length) → ∀ x ∈ hds fs, x.length = 1 := fun h x hx => by
    obtain ⟨f, hf, rfl⟩ := List.mem_map.1 hx
    have := h f hf
    rw [List.length_take]; omega
  have hA : ∀ x, x ∈ Lib.compact (sortL (headsL fs)) ↔ x ∈ hds fs := fun x => (cf.1 x).trans sort_mem
  have hB : ∀ x, x ∈ Lib.compact (sortL (headsL gs)) ↔ x ∈ hds gs := fun x => (cg.1 x).trans sort_mem
  unfold kindsV
  simp only [join_flat]
  constructor
  · intro h x
    have e1 := single_flat (A := Lib.compact (sortL (headsL fs))) (fun x hx => l1 hf x ((hA x).1 hx))
    have e2 := single_flat (A := Lib.compact (sortL (headsL gs))) (fun x hx => l1 hg x ((hB x).1 hx))
    rw [h, ← e2] at e1
    rw [← hA, ← hB, e1]
  · intro h
    rw [strict_eq cf.2 cg.2 (fun x => (hA x).trans ((h x).trans (hB x).symm))]
/-- .. and are different ones -/
theorem kinds_diff {gs : List (List UInt8)} : (kindsV gs).2 = true ↔ (hds gs).Nodup := by
  have cg := comp_facts (sort_sorted (headsL gs))
  unfold kindsV
  simp only [decide_eq_true_eq]
  have hl : (sortL (headsL gs)).length = gs.length := by rw [sort_len]; exact List.length_map ..
  constructor
  · intro h
    have hall : ∀ j, j < (sortL (headsL gs)).length → Lib.keeps (sortL (headsL gs)).toArray j = true := by
      unfold Lib.compact Lib.compactUpTo at h
      rw [List.length_map, ← hl] at h
      have h2 : ((List.range (sortL (headsL gs)).length).filter (Lib.keeps (sortL (headsL gs)).toArray)).length = (List.range (sortL (headsL gs)).length).length := by rw [h]; simp
      rw [List.length_filter_eq_length_iff] at h2
      exact fun j hj => h2 j (List.mem_range.2 hj)
    rw [Lib.compact_all _ hall] at cg
    have hn : (sortL (headsL gs)).Nodup := cg.2.imp fun h e => by subst e; exact List.lt_irrefl _ h
    exact (List.mergeSort_perm (headsL gs) _).nodup_iff.1 hn
  · intro h
    have hn : (sortL (headsL gs)).Nodup := (List.mergeSort_perm (headsL gs) _).nodup_iff.2 h
    have hall : ∀ j, j < (sortL (headsL gs)).length → Lib.keeps (sortL (headsL gs)).toArray j = true := by
      intro j hj
      unfold Lib.keeps
      rw [decide_eq_true_eq]
      by_cases h0 : j = 0
      · exact .inl h0
      · right
        simp only [List.getElem!_toArray, getElem!_pos (sortL (headsL gs)) j hj, getElem!_pos (sortL (headsL gs)) (j - 1) (by omega : j - 1 < (sortL (headsL gs)).length)]
        intro e
        exact absurd ((List.getElem_inj hn).1 e) (by omega)
    rw [Lib.compact_all _ hall, hl]
/-- when a pattern fits a skeleton, as sets of kinds -/
def sameB (fs gs : List (List UInt8)) : Bool := (hds fs).all (fun x => (hds gs).contains x) && (hds gs).all (fun x => (hds fs).contains x)
def dateW (s p : List UInt8) : Bool :=
  match fieldsV s, runsV p.length p with
  | some w, some g => decide (g ≠ []) && (decide (hds g).Nodup && sameB w g)
  | _, _ => false
theorem runsV_fld : ∀ {n : Nat} {s : List UInt8} {gs}, runsV n s = some gs → ∀ g ∈ gs, isFld g = true
  | 0, s, gs, h, g, hg => by simp [runsV] at h; subst h; cases hg
  | n + 1, [], gs, h, g, hg => by simp [runsV] at h; subst h; cases hg
  | n + 1, c :: s, gs, h, g, hg => by
    rw [runsV] at h
    split at h
    · exact runsV_fld h g hg
    · split at h
      · rename_i hf
        cases hr : runsV n ((c :: s).dropWhile isL) with
        | none => rw [hr] at h; cases h
        | some r =>
          rw [hr] at h
          injection h with h
          subst h
          rcases List.mem_cons.1 hg with e | e
          · rw [e]; exact hf
          · exact runsV_fld hr g e
      · cases h
theorem date_eq (s p : List UInt8) : dateV s p = dateW s p := by
  unfold dateV dateW
  cases h1 : fieldsV s with
  | none => rfl
  | some w =>
    cases h2 : runsV p.length p with
    | none => rfl
    | some g =>
      simp only
      congr 1
      have hw : ∀ f ∈ w, 1 ≤ f.length := fun f hf => (fld_facts ((fieldsV_some h1).2.2 f hf)).1
      have hg : ∀ f ∈ g, 1 ≤ f.length := fun f hf => (fld_facts (runsV_fld h2 f hf)).1
      have e1 : (kindsV g).2 = decide (hds g).Nodup := by rw [Bool.eq_iff_iff, decide_eq_true_eq]; exact kinds_diff
      have e2 : decide ((kindsV w).1 = (kindsV g).1) = sameB w g := by
        rw [Bool.eq_iff_iff, decide_eq_true_eq, kinds_same hw hg]
        unfold sameB
        simp only [Bool.and_eq_true, List.all_eq_true, List.contains_iff_mem]
        exact ⟨fun h => ⟨fun x hx => (h x).1 hx, fun x hx => (h x).2 hx⟩, fun h x => ⟨h.1 x, h.2 x⟩⟩
      rw [e1, e2]
end Go.Proofs.YtaolbfbnjbpljaaDoor
/- Plain: the fields of a skeleton and the best pattern, as the reference has them. -/
namespace Go.Proofs.YtaolbfbnjbpljaaDoor

/-- the place of a field's letter -/
def ordL (c : UInt8) : Int := if c = 121 then 0 else if c = 77 then 1 else if c = 69 then 2 else if c = 100 then 3 else -1
theorem ordL_bd (c : UInt8) : -1 ≤ ordL c ∧ ordL c ≤ 3 := by
  unfold ordL; repeat' split
  all_goals omega
theorem ordL_at {c : UInt8} {i : Nat} (hi : i < 4) (h : ordL c = i) : c = kindsL.getD i 0 := by
  have : i = 0 ∨ i = 1 ∨ i = 2 ∨ i = 3 := by omega
  unfold ordL at h
  rcases this with e | e | e | e <;> subst e <;> (repeat' split at h) <;> first | (simp [kindsL]; assumption) | omega
theorem ordL_kind {i : Nat} (hi : i < 4) : ordL (kindsL.getD i 0) = i := by
  have : i = 0 ∨ i = 1 ∨ i = 2 ∨ i = 3 := by omega
  rcases this with e | e | e | e <;> subst e <;> decide
/-- the fields of a skeleton, behind a field with the place p -/
def rF : Nat → Int → List UInt8 → Option (List (List UInt8))
  | _, _, [] => some []
  | 0, _, _ :: _ => none
  | n + 1, p, c :: s => if isFld ((c :: s).takeWhile (· == c)) = true ∧ p < ordL c then (rF n (ordL c) ((c :: s).dropWhile (· == c))).map (((c :: s).takeWhile (· == c)) :: ·) else none
def rfieldsV (s : List UInt8) : Option (List (List UInt8)) := (rF s.length (-1) s).bind fun fs => if fs = [] then none else some fs

theorem fieldsV_rF {s : List UInt8} : ∀ (j i : Nat) {o r} (n : Nat), i + j = 4 → stF s i = some (o, r) → r.length ≤ n →
    fieldsV s = (rF n ((i : Int) - 1) r).bind fun fs => if o ++ fs = [] then none else some (o ++ fs)
  | 0, i, o, r, n, hij, hst, hn => by
    obtain rfl : i = 4 := by omega
    rw [fieldsV_end hst]
    cases r with
    | nil => rw [rF]; by_cases ho : o = [] <;> simp [ho]
    | cons c r =>
      cases n with
      | zero => simp at hn
      | succ n =>
        have := ordL_bd c
        have hno : ¬ (isFld ((c :: r).takeWhile (· == c)) = true ∧ ((4 : Nat) : Int) - 1 < ordL c) := fun h => by have := h.2; omega
        rw [if_neg (by simp : ¬ (c :: r = [] ∧ o ≠ [])), rF, if_neg hno]; rfl
  | j + 1, i, o, r, n, hij, hst, hn => by
    have hi : i < 4 := by omega
    cases r with
    | nil =>
      have ih := fieldsV_rF j (i + 1) n (by omega) (stF_skip hst (by rfl)) hn
      rw [ih, rF, rF]
    | cons c r =>
      cases n with
      | zero => simp at hn
      | succ n =>
        by_cases hc : c = kindsL.getD i 0
        · have hne : (c :: r).takeWhile (· == kindsL.getD i 0) ≠ [] := by rw [List.takeWhile_cons, if_pos (by simp [hc])]; simp
          have hk := ordL_kind hi
          rw [← hc] at hne hk
          rw [rF]
          cases hf : isFld ((c :: r).takeWhile (· == c)) with
          | false =>
            rw [if_neg (by simp)]
            exact fieldsV_fail (i := i + 1) (by omega) (stF_fail hst (by rw [← hc]; exact hne) (by rw [← hc]; exact hf))
          | true =>
            rw [if_pos ⟨rfl, by omega⟩]
            have h2 := stF_take hst (by rw [← hc]; exact hne) (by rw [← hc]; exact hf)
            rw [← hc] at h2
            have hl : ((c :: r).dropWhile (· == c)).length ≤ n := by
              rw [List.dropWhile_cons, if_pos (by simp)]
              have := (List.dropWhile_sublist (l := r) (· == c)).length_le
              simp at hn; omega
            have ih := fieldsV_rF j (i + 1) n (by omega) h2 hl
            rw [ih, show (((i + 1 : Nat) : Int) - 1) = ordL c by omega]
            cases rF n (ordL c) ((c :: r).dropWhile (· == c)) with
            | none => rfl
            | some fs => simp
        · have he : (c :: r).takeWhile (· == kindsL.getD i 0) = [] := by rw [List.takeWhile_cons, if_neg (by simpa using hc)]
          have ih := fieldsV_rF j (i + 1) (n + 1) (by omega) (stF_skip hst he) hn
          rw [ih, rF, rF]
          have hno : ordL c ≠ i := fun h => hc (ordL_at hi h)
          by_cases hq : isFld ((c :: r).takeWhile (· == c)) = true ∧ ((i + 1 : Nat) : Int) - 1 < ordL c
          · rw [if_pos hq, if_pos ⟨hq.1, by omega⟩]
          · rw [if_neg hq, if_neg (fun h => hq ⟨h.1, by omega⟩)]
theorem rfields_eq (s : List UInt8) : rfieldsV s = fieldsV s := by
  rw [fieldsV_rF (s := s) 4 0 s.length (by omega) rfl (Nat.le_refl _)]
  unfold rfieldsV
  simp

/-- which kinds there are -/
def kindA (fs : List (List UInt8)) (i : Nat) : Bool := (hds fs).contains [kindsL.getD i 0]
def kindsA (fs : List (List UInt8)) : List Bool := [kindA fs 0, kindA fs 1, kindA fs 2, kindA fs 3]
theorem sub_filter {α : Type} [BEq α] [LawfulBEq α] {l L : List α} (h : l.Sublist L) : L.Nodup → l = L.filter (l.contains ·) := by
  induction h with
  | slnil => intro _; rfl
  | @cons l1 l2 a hs ih =>
    intro hn
    rw [List.nodup_cons] at hn
    have : l1.contains a = false := by
      rw [Bool.eq_false_iff]; intro hm; exact hn.1 (hs.subset (List.contains_iff_mem.1 hm))
    rw [List.filter_cons, this, if_neg (by simp)]
    exact ih hn.2
  | @cons_cons l1 l2 a hs ih =>
    intro hn
    rw [List.nodup_cons] at hn
    rw [List.filter_cons, if_pos (by simp)]
    congr 1
    refine (ih hn.2).trans (List.filter_congr fun x hx => ?_)
    have : x ≠ a := fun e => hn.1 (e ▸ hx)
    simp [this]
theorem heads_sub {s : List UInt8} {fs} (h : fieldsV s = some fs) : (hds fs).Sublist (kindsL.map fun k => [k]) := by
  unfold fieldsV at h
  cases hs : stF s 4 with
  | none => rw [hs] at h; cases h
  | some st =>
    obtain ⟨o, r⟩ := st
    rw [hs] at h
    simp only at h
    split at h
    · injection h with h
      subst h
      exact stF_heads (i := 4) (by omega) hs
    · cases h
theorem heads_eq {s t : List UInt8} {fs gs} (hf : fieldsV s = some fs) (hg : fieldsV t = some gs) (h : kindsA fs = kindsA gs) : hds fs = hds gs := by
  have hn : (kindsL.map fun k => [k]).Nodup := by decide
  rw [sub_filter (heads_sub hf) hn, sub_filter (heads_sub hg) hn]
  refine List.filter_congr fun x hx => ?_
  simp only [kindsA, kindA, List.cons.injEq, and_true] at h
  obtain ⟨h0, h1, h2, h3⟩ := h
  simp only [kindsL, List.map_cons, List.map_nil, List.mem_cons, List.not_mem_nil, or_false] at hx
  rcases hx with e | e | e | e <;> subst e <;> assumption
theorem kindsA_heads {fs gs : List (List UInt8)} (h : hds fs = hds gs) : kindsA fs = kindsA gs := by unfold kindsA kindA; rw [h]
/-- the distance of two skeletons of the same kinds, of the first k fields -/
def rdist (a b : List (List UInt8)) : Nat → Int
  | 0 => 0
  | k + 1 => rdist a b k + max (((a.getD k []).length : Int) - ((b.getD k []).length : Int)) (-(((a.getD k []).length : Int) - ((b.getD k []).length : Int)))
theorem find_head : ∀ {gs : List (List UInt8)} {g : List UInt8}, (hds gs).Nodup → g ∈ gs → gs.find? (fun x => x.take 1 == g.take 1) = some g
  | [], _, _, h => by cases h
  | a :: gs, g, hn, h => by
    simp only [hds, List.map_cons, List.nodup_cons] at hn
    rw [List.find?_cons]
    rcases List.mem_cons.1 h with e | e
    · subst e; simp
    · have : (a.take 1 == g.take 1) = false := by
        rw [beq_eq_false_iff_ne]; exact fun e2 => hn.1 (by rw [e2]; exact List.mem_map.2 ⟨g, e, rfl⟩)
      rw [this]; exact find_head hn.2 e
theorem rdist_sum {fs gs : List (List UInt8)} (hn : (hds gs).Nodup) (h : hds fs = hds gs) : ∀ k, k ≤ fs.length → rdist gs fs k = ((fs.take k).map (dist1 gs)).sum
  | 0, _ => by simp [rdist]
  | k + 1, hk => by
    have hl : fs.length = gs.length := by have := congrArg List.length h; simpa [hds] using this
    have hkf : k < fs.length := hk
    have hkg : k < gs.length := by omega
    have e1 : fs.getD k [] = fs[k] := by simp [List.getD, List.getElem?_eq_getElem hkf]
    have e2 : gs.getD k [] = gs[k] := by simp [List.getD, List.getElem?_eq_getElem hkg]
    have hh : (fs[k]).take 1 = (gs[k]).take 1 := by
      have := congrArg (fun l => l[k]?) h
      simpa [hds, List.getElem?_map, List.getElem?_eq_getElem hkf, List.getElem?_eq_getElem hkg] using this
    have hd : dist1 gs fs[k] = max (((fs[k]).length : Int) - ((gs[k]).length : Int)) (((gs[k]).length : Int) - ((fs[k]).length : Int)) := by
      unfold dist1
      rw [hh, find_head hn (List.getElem_mem hkg)]
    rw [rdist, rdist_sum hn h k (by omega), List.take_succ_eq_append_getElem hkf, List.map_append, List.sum_append, e1, e2]
    simp only [List.map_cons, List.map_nil, List.sum_cons, List.sum_nil, hd]
    omega
theorem rdist_dist {s t : List UInt8} {fs gs} (hf : fieldsV s = some fs) (hg : fieldsV t = some gs) (h : kindsA gs = kindsA fs) : distV fs gs = (rdist gs fs gs.length, true) := by
  have hh : hds fs = hds gs := (heads_eq hg hf h).symm
  have hl : fs.length = gs.length := by have := congrArg List.length hh; simpa [hds] using this
  unfold distV
  have ha : allIn fs gs = true := by
    unfold allIn
    rw [List.all_eq_true]
    intro f hm
    rw [← hh]
    exact List.contains_iff_mem.2 (List.mem_map.2 ⟨f, hm, rfl⟩)
  rw [if_pos ha, ← hl, rdist_sum (fieldsV_nodup hg) hh fs.length (Nat.le_refl _), List.take_length]
  simp [sumD]
theorem len_eq_sub {α : Type} [BEq α] [LawfulBEq α] : ∀ {l L : List α}, l.Nodup → (∀ x ∈ l, x ∈ L) → L.length ≤ l.length → ∀ x ∈ L, x ∈ l
  | [], L, _, _, hl, x, hx => by cases L with | nil => cases hx | cons a L => simp at hl
  | a :: l, L, hn, hs, hl, x, hx => by
    rw [List.nodup_cons] at hn
    by_cases e : x = a
    · subst e; simp
    · have h1 : ∀ y ∈ l, y ∈ L.erase a := fun y hy => (List.mem_erase_of_ne (fun e => by subst e; exact hn.1 hy)).2 (hs y (List.mem_cons_of_mem _ hy))
      have h2 : (L.erase a).length ≤ l.length := by
        rw [List.length_erase_of_mem (hs a (by simp))]
        simp at hl; omega
      exact List.mem_cons_of_mem _ (len_eq_sub hn.2 h1 h2 x ((List.mem_erase_of_ne e).2 hx))
theorem dist_kinds {s t : List UInt8} {fs gs} (hf : fieldsV s = some fs) (_hg : fieldsV t = some gs) (h : (distV fs gs).2 = true) : kindsA gs = kindsA fs := by
  unfold distV at h
  split at h
  · rename_i ha
    unfold allIn at ha
    rw [List.all_eq_true] at ha
    have hl : fs.length = gs.length := by simpa using h
    have hs : ∀ x ∈ hds fs, x ∈ hds gs := fun x hx => by
      obtain ⟨f, hm, rfl⟩ := List.mem_map.1 hx
      exact List.contains_iff_mem.1 (ha f hm)
    have hb := len_eq_sub (fieldsV_nodup hf) hs (by simp [hds, hl])
    have hc : ∀ x, (hds gs).contains x = (hds fs).contains x := fun x => by
      rw [Bool.eq_iff_iff, List.contains_iff_mem, List.contains_iff_mem]; exact ⟨hb x, hs x⟩
    unfold kindsA kindA
    simp only [hc]
  · cases h
/-- one pattern, as the reference has it -/
def rstep (want : List (List UInt8)) (i : Nat) (p : List UInt8) (st : Int × Int) : Int × Int :=
  match fieldsV p with
  | none => st
  | some hv => if kindsA hv = kindsA want then if st.1 < 0 ∨ rdist hv want hv.length < st.2 then ((i : Int), rdist hv want hv.length) else st else st
theorem rstep_eq {s : List UInt8} {want} (hw : fieldsV s = some want) (i : Nat) (p : List UInt8) (st : Int × Int) : rstep want i p st = bstep want i p st := by
  unfold rstep bstep
  cases hp : fieldsV p with
  | none => rfl
  | some hv =>
    simp only
    by_cases hk : kindsA hv = kindsA want
    · rw [if_pos hk, rdist_dist hw hp hk]
      simp
    · rw [if_neg hk, if_neg (fun h => hk (dist_kinds hw hp h.1))]
end Go.Proofs.YtaolbfbnjbpljaaDoor
