/- Walks: missing translations, by the program. -/
import Derived.Test.YtkodnagneblgaaaF5
namespace Go.Proofs.Ytkodnagneblgaaa
open Go.RowKit Go.Maps Go.Sort
attribute [local go_sem] Ext.cell Ext.frozen
attribute [local go_sem ↓] Go.wp_at_zero Go.wp_at_succ
/-- the keys of the allowed targets of a source -/
def stepK (src : ByteArray) (ks : List ByteArray) (x : Tm) : List ByteArray := if keyB x.s = src ∧ x.f = false ∧ memS (keyB x.t) ks = false then ks ++ [keyB x.t] else ks
def knownT (ts : List Tm) (src : ByteArray) (i : Nat) : List ByteArray := (ts.take i).foldl (stepK src) []
theorem knownT_succ (ts : List Tm) (src : ByteArray) (i : Nat) (hi : i < ts.length) : knownT ts src (i + 1) = stepK src (knownT ts src i) (ts.getD i tm0) := by
  have hg : ts.getD i tm0 = ts[i] := by rw [List.getD_eq_getElem?_getD, List.getElem?_eq_getElem hi]; rfl
  unfold knownT
  rw [List.take_add_one, List.getElem?_eq_getElem hi, hg, Option.toList_some, List.foldl_append]
  rfl
theorem knownT_len (ts : List Tm) (src : ByteArray) : ∀ i, i ≤ ts.length → (knownT ts src i).length ≤ i
  | 0, _ => Nat.le_refl _
  | i + 1, h => by
    have := knownT_len ts src i (by omega)
    rw [knownT_succ ts src i (by omega)]
    unfold stepK
    split
    · rw [List.length_append]
      simpa using this
    · omega
def sumL (ct : ByteArray → Nat) (ks : List ByteArray) : Nat := (ks.map ct).sum
theorem sumL_snoc (ct : ByteArray → Nat) (ks : List ByteArray) (k : ByteArray) : sumL ct (ks ++ [k]) = sumL ct ks + ct k := by simp [sumL]
theorem sumL_le (ct : ByteArray → Nat) (h : ∀ t, ct t ≤ 1000001) : ∀ ks : List ByteArray, sumL ct ks ≤ ks.length * 1000001
  | [] => Nat.le_refl _
  | k :: ks => by
    have h1 := sumL_le ct h ks
    have h2 := h k
    have h3 : sumL ct (k :: ks) = ct k + sumL ct ks := by simp [sumL]
    rw [h3, List.length_cons]
    omega
/-- what missing answers -/
def missV (ts : List Tm) (cs ct : ByteArray → Nat) (i : Nat) : Bool :=
  (List.range i).all (fun j => decide (keyB (ts.getD j tm0).s ≠ keyB (ts.getD i tm0).s)) && !(knownT ts (keyB (ts.getD i tm0).s) ts.length).isEmpty && decide (sumL ct (knownT ts (keyB (ts.getD i tm0).s) ts.length) < cs (keyB (ts.getD i tm0).s))
theorem miss_no {ts : List Tm} {cs ct : ByteArray → Nat} {i j : Nat} (hj : j < i) (h : keyB (ts.getD j tm0).s = keyB (ts.getD i tm0).s) : missV ts cs ct i = false := by
  unfold missV
  have : (List.range i).all (fun j => decide (keyB (ts.getD j tm0).s ≠ keyB (ts.getD i tm0).s)) = false := by
    rw [Bool.eq_false_iff]
    intro e
    rw [List.all_eq_true] at e
    exact (of_decide_eq_true (e j (List.mem_range.2 hj))) h
  rw [this, Bool.false_and, Bool.false_and]
theorem miss_end {ts : List Tm} {cs ct : ByteArray → Nat} {i : Nat} (h : ∀ j, j < i → keyB (ts.getD j tm0).s ≠ keyB (ts.getD i tm0).s) :
    missV ts cs ct i = (!(knownT ts (keyB (ts.getD i tm0).s) ts.length).isEmpty && decide (sumL ct (knownT ts (keyB (ts.getD i tm0).s) ts.length) < cs (keyB (ts.getD i tm0).s))) := by
  unfold missV
  have : (List.range i).all (fun j => decide (keyB (ts.getD j tm0).s ≠ keyB (ts.getD i tm0).s)) = true := by
    rw [List.all_eq_true]
    intro x hx
    exact decide_eq_true (h x (List.mem_range.1 hx))
  rw [this, Bool.true_and]
set_option maxRecDepth 100000 in
set_option maxHeartbeats 8000000 in
theorem missing_any (ts : List Tm) (cs ct : ByteArray → Nat) (ad : Option Addr) (n c M1 m1 M2 m2 i : Nat) (w : World) (ht : TmAt w ad n ts) (hn : n ≤ 1000) (hi : i < n) (hz : ∀ x ∈ ts, x.s.size ≤ 100000 ∧ x.t.size ≤ 100000) (h1 : CntAt w M1 m1 cs) (h2 : CntAt w M2 m2 ct) (hcs : ∀ t, cs t ≤ 1000001) (hct : ∀ t, ct t ≤ 1000001) :
    Calls Try.prog 25 #[.agg #[.slice ad n c, .map (some M1), .map (some M2)], .int .i64 (i : Int)] w fun e w' => e = .returned (.bool (missV ts cs ct i)) ∧ Below w.heap.size w w' := by
  have HT := Lib.hid ht
  have HZ := Lib.hid hz
  have HC1 := Lib.hid h1
  have HC2 := Lib.hid h2
  have HCT := Lib.hid hct
  have HCS := Lib.hid hcs
  have HL := Lib.hid ht.1
  have HK := Lib.hid key_any
  have hmm := @run_makeMap Try.prog
  obtain ⟨_, b, off, hrw⟩ := ht
  have hix := fun W => hrw.ix 29 53 Try.underlying29 cellsTm (by omega) hi c W
  have g0 := hrw.cell i 0 hi (by omega)
  rw [Nat.add_zero] at g0
  simp only [tmC] at g0
  have HZI := Lib.hid (hz (ts.getD i tm0) (getD_mem _ _ _ (by rw [HL.out]; exact hi)))
  clear hrw hz h1 h2 hct hcs
  have HNO : Hid (∀ j, j < i → keyB (ts.getD j tm0).s = keyB (ts.getD i tm0).s → missV ts cs ct i = false) := fun j hj h => miss_no hj h
  have HEND : Hid ((∀ j, j < i → keyB (ts.getD j tm0).s ≠ keyB (ts.getD i tm0).s) → missV ts cs ct i = (!(knownT ts (keyB (ts.getD i tm0).s) ts.length).isEmpty && decide (sumL ct (knownT ts (keyB (ts.getD i tm0).s) ts.length) < cs (keyB (ts.getD i tm0).s)))) := fun h => miss_end h
  rw [HL.out] at HEND
  generalize missV ts cs ct i = mv at *
  generalize ts.getD i tm0 = x at *
  have hiz : (i : Int) < (n : Int) := by omega
  go_enter Try.func25, Try.ntmps25
  go_upto_region 1 with (fail)
  have HB0 : Hid (Below w.heap.size w (w.alloc (.cells #[.slice ad n c, .map (some M1), .map (some M2)] 57))) := Bel.alloc (Bel.refl w) _
  have HX0 : Hid ((w.alloc (.cells #[.slice ad n c, .map (some M1), .map (some M2)] 57)).heap[w.heap.size]? = some (.cells #[.slice ad n c, .map (some M1), .map (some M2)] 57 (0, 0))) := heap_alloc_new w _
  have g1 := cell_later HB0.out g0
  generalize w.alloc (.cells #[.slice ad n c, .map (some M1), .map (some M2)] 57) = w0 at *
  have x0 := row_cells HX0.out 0
  go_wp2_with fail
  refine (HK.out x.s _ (Nat.le_trans HZI.out.1 (by omega))).mono ?_
  rintro e w2 ⟨rfl, hb⟩
  have HKS : Hid ((keyB x.s).size ≤ maxLen) := Nat.le_trans (keyB_size _) (by have := HZI.out.1; unfold maxLen; omega)
  generalize keyB x.s = src at *
  have HB2 : Hid (Below w.heap.size w w2) := HB0.out.trans (hb.mono HB0.out.size)
  have HX2 : Hid (w2.heap[w.heap.size]? = some (.cells #[.slice ad n c, .map (some M1), .map (some M2)] 57 (0, 0))) := (hb.block _ (Array.getElem?_eq_some_iff.1 HX0.out).1).trans HX0.out
  clear hb HB0 HX0 x0 g1 g0 HZI hix
  have y0 := row_cells HX2.out 0
  have hzl := (Array.getElem?_eq_some_iff.1 HX2.out).1
  have hzl2 := HB2.out.size
  go_wp2_with fail
  have HS0 := Lib.hid (SeenS.made w2)
  have HBM : Hid (Below w2.heap.size w2 (w2.alloc (.map #[] 0))) := Bel.alloc (Bel.refl w2) _
  have HX3 : Hid ((w2.alloc (.map #[] 0)).heap[w.heap.size]? = some (.cells #[.slice ad n c, .map (some M1), .map (some M2)] 57 (0, 0))) := (HBM.out.block _ hzl).trans HX2.out
  have HB3 : Hid (Below w.heap.size w (w2.alloc (.map #[] 0))) := HB2.out.trans (HBM.out.mono hzl2)
  generalize w2.alloc (.map #[] 0) = w3 at *
  clear HBM HX2 HB2 y0
  obtain ⟨M, hM⟩ : ∃ M, w2.heap.size = M := ⟨_, rfl⟩
  rw [hM] at HS0 hzl hzl2 ⊢
  clear hM
  go_loopw [7, 22] (fun v u wr => ∃ (k nn : Nat), u = .int .i64 (k : Int) ∧ v = .int .i64 ((sumL ct (knownT ts src k) : Nat) : Int) ∧ k ≤ n ∧ nn ≤ k ∧ (∀ j, j < k → j < i → keyB (ts.getD j tm0).s ≠ src) ∧ SeenS wr M nn (knownT ts src k) ∧ wr.heap[w.heap.size]? = some (.cells #[.slice ad n c, .map (some M1), .map (some M2)] 57 (0, 0)) ∧ Below w.heap.size w wr) (fun _ u _ => n - (intOf u).toNat)
  case atStart => exact ⟨0, 0, rfl, rfl, Nat.zero_le _, Nat.le_refl _, fun j hj => absurd hj (Nat.not_lt_zero _), HS0.out, HX3.out, HB3.out⟩
  case round =>
    obtain ⟨k, nn, rfl, rfl, hkn, hnn, hne, hse, hxr, hbl⟩ := hrel
    have HNE := Lib.hid hne
    have HSE := Lib.hid hse
    have HXR := Lib.hid hxr
    have HB := Lib.hid hbl
    clear hne hse hxr hbl HS0 HX3 HB3
    by_cases hlt : k < n
    · obtain ⟨_, tb, tq, hrw⟩ := HT.out.below HB.out
      have hix := fun W => hrw.ix 29 53 Try.underlying29 cellsTm (by omega) hlt c W
      have h0 := hrw.cell k 0 hlt (by omega)
      have h1 := hrw.cell k 1 hlt (by omega)
      have h2 := hrw.cell k 2 hlt (by omega)
      rw [Nat.add_zero] at h0
      simp only [tmC] at h0 h1 h2
      clear hrw
      have HKN := Lib.hid (knownT_succ ts src k (by rw [HL.out]; exact hlt))
      have hkl := knownT_len ts src k (by rw [HL.out]; exact hkn)
      have hsl := sumL_le ct HCT.out (knownT ts src k)
      have HSM : Hid (sumL ct (knownT ts src k) ≤ 1000 * 1000001) := Nat.le_trans hsl (Nat.mul_le_mul_right _ (by omega))
      clear hkl hsl
      have HN0 := Lib.hid (HNO.out k)
      have HNX : Hid ((k < i → keyB (ts.getD k tm0).s ≠ src) → ∀ j, j < k + 1 → j < i → keyB (ts.getD j tm0).s ≠ src) := fun h j hj hji => by
        by_cases e : j = k
        · rw [e]; exact h (by omega)
        · exact HNE.out j (by omega) hji
      obtain ⟨z1, z2⟩ := HZ.out (ts.getD k tm0) (getD_mem _ _ _ (by rw [HL.out]; exact hlt))
      have HZ1 := Lib.hid z1
      have HZ2 := Lib.hid z2
      have hlz : (k : Int) < (n : Int) := by omega
      clear z1 z2 HNE
      generalize ts.getD k tm0 = y at *
      generalize knownT ts src k = ks at *
      go_upto_region 7 with (fail)
      have hzr := HB.out.size
      have HB4 : Hid (Below w.heap.size w (wr.alloc (.cells #[.string y.s, .string y.t, .bool y.f] 53))) := HB.out.alloc hzr _
      have HBA : Hid (Below wr.heap.size wr (wr.alloc (.cells #[.string y.s, .string y.t, .bool y.f] 53))) := Bel.alloc (Bel.refl wr) _
      have HY4 : Hid ((wr.alloc (.cells #[.string y.s, .string y.t, .bool y.f] 53)).heap[wr.heap.size]? = some (.cells #[.string y.s, .string y.t, .bool y.f] 53 (0, 0))) := heap_alloc_new wr _
      have HS4 := Lib.hid (HSE.out.below HBA.out)
      have HX4 := Lib.hid ((HBA.out.block _ (Array.getElem?_eq_some_iff.1 HXR.out).1).trans HXR.out)
      generalize wr.alloc (.cells #[.string y.s, .string y.t, .bool y.f] 53) = w4 at *
      clear HBA HSE HXR HB h0 h1 h2 hix
      have y0 := row_cells HY4.out 0
      go_wp2_with fail
      refine (HK.out y.s _ (Nat.le_trans HZ1.out (by omega))).mono ?_
      rintro e w5 ⟨rfl, hb⟩
      have HB5 := Lib.hid (HB4.out.trans (hb.mono HB4.out.size))
      have HS5 := Lib.hid (HS4.out.below hb)
      have HX5 := Lib.hid ((hb.block _ (Array.getElem?_eq_some_iff.1 HX4.out).1).trans HX4.out)
      have HY5 := Lib.hid ((hb.block _ (Array.getElem?_eq_some_iff.1 HY4.out).1).trans HY4.out)
      clear hb HB4 HS4 HX4 HY4 y0
      by_cases hks : keyB y.s = src
      · rw [hks] at HN0 HNX ⊢
        clear HZ1
        by_cases hki : k < i
        · have HV : Hid (mv = false) := HN0.out hki rfl
          have hkz : (k : Int) < (i : Int) := by omega
          go_wp2_with fail
          go_ret
          exact ⟨by rw [HV.out]; rfl, HB5.out⟩
        · have hkz : ¬ (k : Int) < (i : Int) := by omega
          have y1 := row_cells HY5.out 1
          go_wp2_with fail
          refine (HK.out y.t _ (Nat.le_trans HZ2.out (by omega))).mono ?_
          rintro e w6 ⟨rfl, hb⟩
          have HB6 := Lib.hid (HB5.out.trans (hb.mono HB5.out.size))
          have HS6 := Lib.hid (HS5.out.below hb)
          have HX6 := Lib.hid ((hb.block _ (Array.getElem?_eq_some_iff.1 HX5.out).1).trans HX5.out)
          have HY6 := Lib.hid ((hb.block _ (Array.getElem?_eq_some_iff.1 HY5.out).1).trans HY5.out)
          have HKT : Hid ((keyB y.t).size ≤ maxLen) := Nat.le_trans (keyB_size _) (by have := HZ2.out; unfold maxLen; omega)
          clear hb HB5 HS5 HX5 HY5 y1 HZ2
          have HST : Hid (stepK src ks y = if y.f = false ∧ memS (keyB y.t) ks = false then ks ++ [keyB y.t] else ks) := by
            unfold Hid stepK
            simp only [hks, true_and]
          clear hks
          have HN1 := Lib.hid (HNX.out (fun h => absurd h hki))
          clear HNX HN0 hki
          generalize keyB y.t = kt at *
          generalize y.s = ys at *
          generalize y.t = yt at *
          generalize y.f = yf at *
          generalize stepK src ks y = ks2 at *
          have y2 := row_cells HY6.out 2
          cases yf with
          | true =>
            have HE : Hid (ks2 = ks) := by rw [Hid, HST.out, if_neg (by simp)]
            go_wp2_with fail
            go_roundw
            case rel => exact ⟨k + 1, nn, by go_num, by rw [HKN.out, HE.out], by omega, by omega, HN1.out, by rw [HKN.out, HE.out]; exact HS6.out, HX6.out, HB6.out⟩
            case measure => simp [intOf]; omega
          | false =>
            have hlk := HS6.out.look kt HKT.out
            generalize memS kt ks = mm at *
            cases mm with
            | true =>
              have HE : Hid (ks2 = ks) := by rw [Hid, HST.out, if_neg (by simp)]
              go_wp2_with fail
              go_roundw
              case rel => exact ⟨k + 1, nn, by go_num, by rw [HKN.out, HE.out], by omega, by omega, HN1.out, by rw [HKN.out, HE.out]; exact HS6.out, HX6.out, HB6.out⟩
              case measure => simp [intOf]; omega
            | false =>
              have HE : Hid (ks2 = ks ++ [kt]) := by rw [Hid, HST.out, if_pos ⟨rfl, rfl⟩]
              obtain ⟨w7, hput, hs7, hg⟩ := HS6.out.put kt HKT.out (by unfold maxLen; omega)
              have HS7 := Lib.hid hs7
              have HB7 : Hid (Below w.heap.size w w7) := HB6.out.grown hg HB6.out.size (fun j hj => by injection hj with hj; omega)
              have HX7 : Hid (w7.heap[w.heap.size]? = some (.cells #[.slice ad n c, .map (some M1), .map (some M2)] 57 (0, 0))) := (hg.block _ (Array.getElem?_eq_some_iff.1 HX6.out).1 (by intro e; injection e with e; omega)).trans HX6.out
              have hl2 := (HC2.out.below HB7.out).look kt HKT.out
              have q2 := row_cells HX7.out 2
              have HSS := Lib.hid (sumL_snoc ct ks kt)
              have hc9 := HCT.out kt
              have hs9 := HSM.out
              clear hs7 hg HS6 HX6 HB6 HST
              generalize sumL ct ks = sm at *
              generalize ct kt = ckt at *
              go_wp2_with fail
              go_roundw
              case rel => exact ⟨k + 1, nn + 1, by go_num, by rw [HKN.out, HE.out, HSS.out]; go_num, by omega, by omega, HN1.out, by rw [HKN.out, HE.out]; exact HS7.out, HX7.out, HB7.out⟩
              case measure => simp [intOf]; omega
      · have HE : Hid (stepK src ks y = ks) := by rw [Hid, stepK, if_neg (fun h => hks h.1)]
        have HN1 := Lib.hid (HNX.out (fun _ => hks))
        clear HNX HN0
        generalize stepK src ks y = ks2 at *
        generalize keyB y.s = kys at *
        have kq : (kys.toList == src.toList) = false := by rw [ba_bne]; exact decide_eq_false hks
        go_wp2_with fail
        go_roundw
        case rel => exact ⟨k + 1, nn, by go_num, by rw [HKN.out, HE.out], by omega, by omega, HN1.out, by rw [HKN.out, HE.out]; exact HS5.out, HX5.out, HB5.out⟩
        case measure => simp [intOf]; omega
    · obtain rfl : k = n := by omega
      have HV := Lib.hid (HEND.out (fun j hj => HNE.out j (by omega) hj))
      obtain ⟨lm, hlm, hlen⟩ := HSE.out.len
      have hl1 := (HC1.out.below HB.out).look src HKS.out
      have q1 := row_cells HXR.out 1
      have hcsb := HCS.out src
      generalize knownT ts src k = ks at *
      generalize sumL ct ks = sm at *
      generalize cs src = css at *
      cases ks with
      | nil =>
        have hl0 : lm = 0 := by
          rcases Nat.eq_zero_or_pos lm with h | h
          · exact h
          · exact absurd rfl (hlm.1 h)
        subst hl0
        clear hlm
        go_wp2_with fail
        go_ret
        exact ⟨by rw [HV.out]; rfl, HB.out⟩
      | cons k0 ks =>
        have hl0 : 0 < lm := hlm.2 (by simp)
        have hl0z : (0 : Int) < (lm : Int) := by omega
        clear hlm
        have HD : Hid (mv = decide (sm < css)) := by
          rw [Hid, HV.out]
          simp
        go_wp2_with fail
        go_ret
        exact ⟨by rw [HD.out]; rfl, HB.out⟩
end Go.Proofs.Ytkodnagneblgaaa
