/- Walks: the best pattern, by the program. -/
import Derived.Test.YtaolbfbnjbpljaaDoorV10
namespace Go.Proofs.YtaolbfbnjbpljaaDoor
open Go.RowKit Go.Maps
attribute [local go_sem] Ext.cell Ext.frozen
attribute [local go_sem ↓] Go.wp_at_zero Go.wp_at_succ

/-- a slice of pairs of strings, from block b, offset off on -/
structure PatAt (w : World) (ad : Option Addr) (n : Nat) (ps : List (List UInt8 × List UInt8)) (b off : Nat) : Prop where
  len : ps.length = n
  max : n ≤ 9223372036854775807
  adr : n ≠ 0 → ad = some ⟨b, off, none⟩
  c0 : ∀ i (_h : i < n), w.cell? ⟨b, off + i * 2, none⟩ = some (.string (bs (ps.getD i ([], [])).1))
  c1 : ∀ i (_h : i < n), w.cell? ⟨b, off + i * 2 + 1, none⟩ = some (.string (bs (ps.getD i ([], [])).2))
theorem PatAt.block {w : World} {ad : Option Addr} {n : Nat} {ps} {b off : Nat} (h : PatAt w ad n ps b off) (hn : n ≠ 0) : b < w.heap.size :=
  World.block_lt_of_cell? w _ (h.c0 0 (by omega))
theorem PatAt.below {w w' : World} {ad : Option Addr} {n : Nat} {ps} {b off : Nat} (h : PatAt w ad n ps b off) (hb : Below w.heap.size w w') : PatAt w' ad n ps b off :=
  ⟨h.len, h.max, h.adr, fun i hi => by rw [hb.cell (p := ⟨b, off + i * 2, none⟩) (h.block (by omega))]; exact h.c0 i hi,
    fun i hi => by rw [hb.cell (p := ⟨b, off + i * 2 + 1, none⟩) (h.block (by omega))]; exact h.c1 i hi⟩
theorem cellsPat : Tryd.prog.cellsOf 39 = 2 := by kernel_rfl
theorem PatAt.ix {w : World} {ad : Option Addr} {n c : Nat} {ps} {b off k : Nat} (h : PatAt w ad n ps b off) (hk : k < n) (W : World) :
    (Instr.indexAt 35 (.slice ad n c) (.int .i64 (k : Int))).run Tryd.prog W = .ok (.pointer (some ⟨b, off + k * 2, none⟩)) W := by
  rw [h.adr (by omega)]
  have hel : Tryd.prog.elem 35 = 39 := by simp [Program.elem, Tryd.underlying35]
  rw [run_indexAt_slice W 35 _ n c .i64 k (by rw [hel]; exact Tryd.underlying35), hel, if_pos (by omega)]
  have hs : (sizeOf 39).run Tryd.prog W = .ok 2 W := by
    have hE := cellsPat
    unfold Program.cellsOf at hE
    cases hi : Tryd.prog.info? 39 with
    | none => simp [hi] at hE
    | some i => simp [hi] at hE; simp [sizeOf, typeInfo, hi, hE]
  rw [hs]
  simp [Result.andThen, Addr.add]

/-- the best so far -/
def bstep (want : List (List UInt8)) (i : Nat) (p : List UInt8) (st : Int × Int) : Int × Int :=
  match fieldsV p with
  | none => st
  | some hv => if (distV want hv).2 = true ∧ (st.1 < 0 ∨ (distV want hv).1 < st.2) then ((i : Int), (distV want hv).1) else st
def bst (want : List (List UInt8)) (ps : List (List UInt8 × List UInt8)) : Nat → Int × Int
  | 0 => (-1, 0)
  | k + 1 => bstep want k (ps.getD k ([], [])).1 (bst want ps k)
/-- what Best answers -/
def bestV (ps : List (List UInt8 × List UInt8)) (s : List UInt8) : Int × Nat :=
  match fieldsV s with
  | none => (0, 3)
  | some want => if (bst want ps ps.length).1 < 0 then (0, 8) else ((bst want ps ps.length).1, 0)
theorem distV_bd {fs gs : List (List UInt8)} (hf : ∀ f ∈ fs, f.length ≤ 3) (hg : ∀ g ∈ gs, g.length ≤ 3) : 0 ≤ (distV fs gs).1 ∧ (distV fs gs).1 ≤ 3 * (fs.length : Int) := by
  unfold distV
  split
  · exact sumD_bd hg hf
  · simp; omega
theorem bst_bd {want : List (List UInt8)} (hw : ∀ f ∈ want, f.length ≤ 3) (hw4 : want.length ≤ 4) (ps : List (List UInt8 × List UInt8)) : ∀ k, -1 ≤ (bst want ps k).1 ∧ (bst want ps k).1 ≤ (k : Int) ∧ 0 ≤ (bst want ps k).2 ∧ (bst want ps k).2 ≤ 12
  | 0 => by simp [bst]
  | k + 1 => by
    have ih := bst_bd hw hw4 ps k
    rw [bst]
    unfold bstep
    cases h : fieldsV (ps.getD k ([], [])).1 with
    | none => simp only; omega
    | some hv =>
      simp only
      have h1 := distV_bd hw (fun g hg => (fld_facts ((fieldsV_some h).2.2 g hg)).2)
      split
      · simp only; omega
      · omega

set_option maxRecDepth 20000 in
set_option maxHeartbeats 16000000 in
theorem best_any (ad : Option Addr) (n c : Nat) (ps : List (List UInt8 × List UInt8)) (b off : Nat) (s : ByteArray) (w : World) (hp : PatAt w ad n ps b off) (hs : s.size ≤ 1000) (hps : ∀ p ∈ ps, p.1.length ≤ 1000) :
    Calls Tryd.prog 20 #[.slice ad n c, .string s] w fun e w' => e = .returned (.tuple #[.int .i64 (bestV ps s.data.toList).1, .int .i64 ((bestV ps s.data.toList).2 : Nat)]) ∧ Below w.heap.size w w' := by
  have HLE := Lib.hid (fun w => lengths_any s w hs)
  have HP := Lib.hid hp
  have HPL : Hid (∀ k, k < n → ∀ w, Calls Tryd.prog 43 #[.string (bs (ps.getD k ([], [])).1)] w (LenPost (ps.getD k ([], [])).1 w)) := fun k hk w => by
    have hkl : k < ps.length := by rw [hp.len]; exact hk
    have := lengths_any (bs (ps.getD k ([], [])).1) w (by rw [bs_size]; exact hps _ (getD_mem ps k _ hkl))
    rwa [bs_data] at this
  have hnm := hp.max
  have HLN := Lib.hid hp.len
  have hbl : n ≠ 0 → b < w.heap.size := fun h => hp.block h
  clear hp hps
  go_enter Tryd.func20, Tryd.ntmps20
  go_wp2_with fail
  refine (HLE.out _).mono ?_
  rintro e w1 ⟨hb1, hf1⟩
  have HB1 := Lib.hid hb1
  have hz1 := hb1.size
  clear hb1
  rcases hf1 with ⟨hv1, rfl⟩ | ⟨want, B, hv1, rfl, hwB, hown1⟩
  · have HO : Hid (bestV ps s.data.toList = (0, 3)) := by unfold Hid bestV; rw [hv1]
    clear hv1
    go_wp2_with fail
    go_ret2
    exact ⟨by rw [HO.out]; rfl, HB1.out⟩
  · obtain ⟨_, hw4, hwf⟩ := fieldsV_some hv1
    have HWF : Hid (∀ f ∈ want, f.length ≤ 3) := fun f hf => (fld_facts (hwf f hf)).2
    have HWN := Lib.hid (fieldsV_nodup hv1)
    have HBD := Lib.hid (fun k => bst_bd HWF.out hw4 ps k)
    have HO : Hid (bestV ps s.data.toList = if (bst want ps n).1 < 0 then (0, 8) else ((bst want ps n).1, 0)) := by unfold Hid bestV; rw [hv1, HLN.out]
    have HM := Lib.hid hown1
    have hBl : B < w1.heap.size := World.ownsMap.lt hown1
    have HP1 := Lib.hid (HP.out.below HB1.out)
    clear hv1 hown1 hwf
    go_wp2_with fail
    go_loopw [8, 9, 25] (fun u v i wr => ∃ k : Nat, k ≤ n ∧ i = .int .i64 (k : Int) ∧ u = .int .i64 (bst want ps k).1 ∧ v = .int .i64 (bst want ps k).2 ∧ Below w1.heap.size w1 wr) (fun _ _ i _ => n - (intOf i).toNat)
    case atStart => exact ⟨0, Nat.zero_le _, rfl, rfl, rfl, Below.refl _ _⟩
    case round =>
      obtain ⟨k, hkn, rfl, rfl, rfl, hb⟩ := hrel
      have HB := Lib.hid hb
      have hzr := hb.size
      clear hb
      obtain ⟨d1, d2, d3, d4⟩ := HBD.out k
      by_cases hlt : k < n
      · have HPW := Lib.hid (HP1.out.below HB.out)
        have hix := fun W => HPW.out.ix (c := c) hlt W
        have h0 := HPW.out.c0 k hlt
        have h1 := HPW.out.c1 k hlt
        have hbw : b < wr.heap.size := by have := hbl (by omega); omega
        have HLK := Lib.hid (HPL.out k hlt)
        have HST : Hid (bst want ps (k + 1) = bstep want k (ps.getD k ([], [])).1 (bst want ps k)) := rfl
        generalize ps.getD k ([], []) = p at *
        obtain ⟨p1, p2⟩ := p
        simp only at h0 h1 HLK HST
        obtain ⟨st1, hst1⟩ : ∃ st1, bst want ps (k + 1) = st1 := ⟨_, rfl⟩
        rw [hst1] at HST
        have HSE := Lib.hid hst1
        clear hst1
        generalize bst want ps k = st0 at *
        obtain ⟨best, least⟩ := st0
        simp only at d1 d2 d3 d4 HST ⊢
        go_wp2_with fail
        refine (HLK.out _).mono ?_
        rintro e w2 ⟨hb2, hf2⟩
        have hz2 := hb2.size
        (try simp at hz2)
        have HB2 : Hid (Below w1.heap.size w1 w2) := by
          refine HB.out.trans (Below.mono (B := wr.heap.size) ?_ hzr)
          exact Below.trans (by (show Bel wr _; (repeat (first | exact Bel.refl _ | refine Bel.alloc ?_ _ | refine Bel.setCell ?_ _ _ ?_ | exact Nat.le_refl _ | (simp; done) | omega)))) (hb2.mono (by simp))
        clear hb2
        have hz3 := HB2.out.size
        rcases hf2 with ⟨hv2, rfl⟩ | ⟨hv, C, hv2, rfl, hwC, hown2⟩
        · have HS2 : Hid (st1 = (best, least)) := by unfold Hid; rw [HST.out]; unfold bstep; rw [hv2]
          clear hv2
          go_wp2_with fail
          go_roundw
          case rel => exact ⟨k + 1, by omega, by go_num, by rw [HSE.out, HS2.out], by rw [HSE.out, HS2.out], HB2.out⟩
          case measure => simp [intOf]; omega
        · obtain ⟨_, hh4, hhf⟩ := fieldsV_some hv2
          have HHF : Hid (∀ f ∈ hv, f.length ≤ 3) := fun f hf => (fld_facts (hhf f hf)).2
          have HHN := Lib.hid (fieldsV_nodup hv2)
          have HMB : Hid (MapAt w2 B want.length want) := MapAt.kept HM.out HB2.out
          have HMC := Lib.hid hown2
          have HS2 : Hid (st1 = if (distV want hv).2 = true ∧ (best < 0 ∨ (distV want hv).1 < least) then ((k : Int), (distV want hv).1) else (best, least)) := by unfold Hid; rw [HST.out]; unfold bstep; rw [hv2]
          have hdb := distV_bd HWF.out HHF.out
          have HDI := Lib.hid (fun W h1 h2 => distance_any B C want hv W h1 h2 HWN.out HHN.out HWF.out HHF.out hw4 hh4)
          clear hv2 hown2 hhf HST HLK
          generalize distV want hv = dvf at *
          obtain ⟨dv, fits⟩ := dvf
          simp only at hdb HS2 HDI
          obtain ⟨hd1, hd2⟩ := hdb
          have hd3 : dv ≤ 12 := by omega
          go_wp2_with fail
          refine (Calls.toExt (HDI.out _ HMB.out HMC.out)).mono ?_
          rintro e _ ⟨rfl, x, rfl⟩
          have HB3 := Lib.hid (HB2.out.trans (x.2.mono hz3))
          cases fits with
          | false =>
            have HS3 : Hid (st1 = (best, least)) := by unfold Hid; rw [HS2.out, if_neg (by simp)]
            go_wp2_with fail
            go_roundw
            case rel => exact ⟨k + 1, by omega, by go_num, by rw [HSE.out, HS3.out], by rw [HSE.out, HS3.out], HB3.out⟩
            case measure => simp [intOf]; omega
          | true =>
            by_cases hb0 : best < 0
            · have HS3 : Hid (st1 = ((k : Int), dv)) := by unfold Hid; rw [HS2.out, if_pos ⟨rfl, .inl hb0⟩]
              go_wp2_with fail
              go_roundw
              case rel => exact ⟨k + 1, by omega, by go_num, by rw [HSE.out, HS3.out], by rw [HSE.out, HS3.out], HB3.out⟩
              case measure => simp [intOf]; omega
            · by_cases hdl : dv < least
              · have HS3 : Hid (st1 = ((k : Int), dv)) := by unfold Hid; rw [HS2.out, if_pos ⟨rfl, .inr hdl⟩]
                go_wp2_with fail
                go_roundw
                case rel => exact ⟨k + 1, by omega, by go_num, by rw [HSE.out, HS3.out], by rw [HSE.out, HS3.out], HB3.out⟩
                case measure => simp [intOf]; omega
              · have HS3 : Hid (st1 = (best, least)) := by unfold Hid; rw [HS2.out, if_neg (fun h => h.2.elim hb0 hdl)]
                go_wp2_with fail
                go_roundw
                case rel => exact ⟨k + 1, by omega, by go_num, by rw [HSE.out, HS3.out], by rw [HSE.out, HS3.out], HB3.out⟩
                case measure => simp [intOf]; omega
      · obtain rfl : k = n := by omega
        generalize bst want ps k = st0 at *
        obtain ⟨best, least⟩ := st0
        simp only at d1 d2 d3 d4 HO ⊢
        have HBF := Lib.hid (HB1.out.trans (HB.out.mono hz1))
        by_cases hb0 : best < 0
        · have HR : Hid (bestV ps s.data.toList = (0, 8)) := by unfold Hid; rw [HO.out, if_pos hb0]
          go_wp2_with fail
          go_ret2
          exact ⟨by rw [HR.out]; rfl, HBF.out⟩
        · have HR : Hid (bestV ps s.data.toList = (best, 0)) := by unfold Hid; rw [HO.out, if_neg hb0]
          go_wp2_with fail
          go_ret2
          exact ⟨by rw [HR.out]; rfl, HBF.out⟩
end Go.Proofs.YtaolbfbnjbpljaaDoor
