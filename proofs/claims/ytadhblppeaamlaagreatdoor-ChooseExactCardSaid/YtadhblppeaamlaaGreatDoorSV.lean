/- Walks: the index of the key that is chosen. -/
import Derived.Test.YtadhblppeaamlaaGreatDoorSU
import Derived.Test.YtadhblppeaamlaaGreatDoorS5
namespace Go.Proofs.YtadhblppeaamlaaGreatDoor
open Go.RowKit
attribute [local go_sem] Ext.cell Ext.frozen
attribute [local go_sem ↓] Go.wp_at_zero Go.wp_at_succ

theorem idxS_in {keys : List ByteArray} {a : ByteArray} (h : a ∈ keys) : idxS keys a = ((keys.idxOf a : Nat) : Int) := by
  have h2 := List.idxOf_lt_length_of_mem h
  refine idxP_hit h2 ?_ fun i hi => ?_
  · rw [idxOf_getD h]; simp
  · rw [decide_eq_false_iff_not]
    intro e
    have h3 := List.not_of_lt_findIdx (p := (· == a)) (xs := keys) hi
    rw [List.getD, List.getElem?_eq_getElem (show i < keys.length by omega), Option.getD_some] at e
    rw [e] at h3
    simp at h3
theorem idxS_out {keys : List ByteArray} {a : ByteArray} (h : a ∉ keys) : idxS keys a = -1 := by
  refine idxP_miss fun i hi => ?_
  rw [decide_eq_false_iff_not]
  intro e
  exact h (e ▸ getD_mem keys i .empty hi)
theorem firstK_hit {keys : List ByteArray} : ∀ {l : List ByteArray} {k : Nat}, k < l.length → (∀ i, i < k → l.getD i .empty ∉ keys) → l.getD k .empty ∈ keys → firstK keys l = ((keys.idxOf (l.getD k .empty) : Nat) : Int)
  | a :: r, 0, _, _, h => firstK_in h
  | a :: r, k + 1, hk, hm, h => by
    rw [firstK_out (a := a) (hm 0 (Nat.succ_pos _))]
    exact firstK_hit (by simpa using hk) (fun i hi => hm (i + 1) (by omega)) h
theorem firstK_miss {keys : List ByteArray} : ∀ {l : List ByteArray}, (∀ i, i < l.length → l.getD i .empty ∉ keys) → firstK keys l = -1
  | [], _ => rfl
  | a :: r, hm => by
    rw [firstK_out (a := a) (hm 0 (by simp))]
    exact firstK_miss fun i hi => hm (i + 1) (by simpa using hi)
theorem rows_sl {w : World} {v : Value} {l : List ByteArray} (h : RowsOf 1 StrC w v l) : ∃ ad c, v = .slice ad l.length c ∧ Sl w ad l.length (strs l) ∧ (ad = none → c = 0) := by
  obtain ⟨ad, c, f, b, off, rfl, hr, hz, _, _, hf⟩ := h
  refine ⟨ad, c, rfl, ⟨b, off, strs_length l, hr.max, hr.adr, fun i hi => ?_⟩, hz⟩
  have := hr.cell i 0 hi (by omega)
  rw [Nat.mul_one, Nat.add_zero] at this
  rw [this, strs_getD _ _ hi, (RowsOf.get hf hi ByteArray.empty).1]
set_option maxRecDepth 20000 in
set_option maxHeartbeats 4000000 in
theorem cindex_any (x y : Nat → Value) (a b : List (ByteArray × List (List Rel))) (kind : Int) (kad : Option Addr) (kn kc : Nat) (keys : List ByteArray) (v : Vl) (w : World) (h : LocC w x a b) (hk : Sl w kad kn (strs keys)) (hv : ValC w y v) (ha : FewC a) (hb : FewC b) (hs : v.tx.size ≤ 1000) :
    Calls Tryz.prog 28 #[.agg #[x 0, x 1, x 2, x 3, x 4, x 5, x 6, x 7, x 8, x 9, x 10, x 11, x 12, x 13, x 14, x 15], .int .i64 kind, .slice kad kn kc, .agg #[y 0, y 1, y 2, y 3, y 4]] w fun e w' => e = .returned (.int .i64 (firstK keys (wantV kind (rulesV kind a b) v.tx))) ∧ Below w.heap.size w w' := by
  have HW : Hid (∀ W, Below w.heap.size w W → Calls Tryz.prog 54 #[.agg #[x 0, x 1, x 2, x 3, x 4, x 5, x 6, x 7, x 8, x 9, x 10, x 11, x 12, x 13, x 14, x 15], .int .i64 kind, .agg #[y 0, y 1, y 2, y 3, y 4]] W (WantP W (wantV kind (rulesV kind a b) v.tx))) := fun W g => wanted_any x y a b kind v W (h.below g) (hv.below g) ha hb hs
  have HI : Hid (∀ k W, Below w.heap.size w W → Calls Tryz.prog 55 #[.slice kad kn kc, .string k] W fun e w' => e = .returned (.int .i64 (idxS keys k)) ∧ W = w') := fun k W g => index_str kad kn kc keys k W (hk.below g)
  clear h hk hv ha hb hs
  generalize wantV kind (rulesV kind a b) v.tx = ws at *
  obtain ⟨q, hq⟩ : ∃ q, firstK keys ws = q := ⟨_, rfl⟩
  rw [hq]
  have HQ := Lib.hid hq
  clear hq
  generalize x 0 = x0 at *
  generalize x 1 = x1 at *
  generalize x 2 = x2 at *
  generalize x 3 = x3 at *
  generalize x 4 = x4 at *
  generalize x 5 = x5 at *
  generalize x 6 = x6 at *
  generalize x 7 = x7 at *
  generalize x 8 = x8 at *
  generalize x 9 = x9 at *
  generalize x 10 = x10 at *
  generalize x 11 = x11 at *
  generalize x 12 = x12 at *
  generalize x 13 = x13 at *
  generalize x 14 = x14 at *
  generalize x 15 = x15 at *
  generalize y 0 = y0 at *
  generalize y 1 = y1 at *
  generalize y 2 = y2 at *
  generalize y 3 = y3 at *
  generalize y 4 = y4 at *
  go_enter Tryz.func28, Tryz.ntmps28
  go_wp2_with fail
  refine (HW.out _ ?_).mono ?_
  · show Bel w _; repeat (first | exact Bel.refl _ | refine Bel.drew ?_ | refine Bel.drewN ?_ _ | refine Bel.alloc ?_ _ | refine Bel.ext ?_ _)
  rintro e w2 ⟨ad, n, c, rfl, hsl, hb2⟩
  have HBX : Hid (Below w.heap.size w w2) := Below.trans (by show Bel w _; exact ((Bel.refl _).alloc _).alloc _) (hb2.mono (by simp; omega))
  obtain ⟨b2, off, hr⟩ := hsl
  have hn : ws.length = n := by have := hr.len; rwa [strs_length] at this
  have HN := Lib.hid hn
  have HR := Lib.hid hr
  have hnm := hr.max
  clear hr hn hb2
  go_wp2_with fail
  go_loopw [17] (fun v wr => ∃ k : Nat, v = .int .i64 (k : Int) ∧ k ≤ n ∧ (∀ i, i < k → ws.getD i .empty ∉ keys) ∧ Below w2.heap.size w2 wr) (fun v _ => n - (intOf v).toNat)
  case atStart => exact ⟨0, rfl, Nat.zero_le _, fun i hi => absurd hi (Nat.not_lt_zero _), Below.refl _ _⟩
  case round =>
    obtain ⟨k, rfl, hkn, hal, hbl⟩ := hrel
    have HAL := Lib.hid hal
    have HBL : Hid (Below w.heap.size w wr) := HBX.out.trans (hbl.mono HBX.out.size)
    have HBL2 := Lib.hid hbl
    clear hal
    by_cases hlt : k < n
    · have hrr := HR.out.below hbl
      have hix := fun W => hrr.ix 28 9 Tryz.underlying28 (by kernel_rfl) hlt (c := c) W
      have hc := hrr.cell k hlt
      rw [strs_getD _ _ (by rw [HN.out]; exact hlt)] at hc
      have hk0 : k < ws.length := by rw [HN.out]; exact hlt
      have HII := Lib.hid (HI.out (ws.getD k .empty) wr HBL.out)
      have HHIT : Hid (ws.getD k .empty ∈ keys → q = idxS keys (ws.getD k .empty)) := fun h => by
        rw [Hid] at HQ
        rw [← HQ, firstK_hit hk0 HAL.out h, idxS_in h]
      have HMISS : Hid (ws.getD k .empty ∉ keys → ∀ i, i < k + 1 → ws.getD i .empty ∉ keys) := fun h i hi => by
        by_cases e : i = k
        · subst e; exact h
        · exact HAL.out i (by omega)
      clear hrr hbl hk0
      generalize ws.getD k .empty = ky at *
      by_cases hm : ky ∈ keys
      · have HO := Lib.hid (HHIT.out hm)
        rw [Hid, idxS_in hm] at HO HII
        replace HO := Lib.hid HO
        replace HII := Lib.hid HII
        generalize keys.idxOf ky = j at *
        clear HHIT HMISS hm
        go_wp2_with fail
        refine HII.out.mono ?_
        rintro e _ ⟨rfl, rfl⟩
        go_wp2_with fail
        go_ret
        exact ⟨by rw [HO.out]; rfl, HBL.out⟩
      · have HO := Lib.hid (HMISS.out hm)
        rw [Hid, idxS_out hm] at HII
        replace HII := Lib.hid HII
        clear HHIT HMISS hm
        go_wp2_with fail
        refine HII.out.mono ?_
        rintro e _ ⟨rfl, rfl⟩
        go_wp2_with fail
        go_roundw
        case rel => exact ⟨k + 1, by go_num, by omega, HO.out, HBL2.out⟩
        case measure => simp [intOf]; omega
    · obtain rfl : k = n := by omega
      have HO : Hid (q = -1) := HQ.out.symm.trans (firstK_miss (by rw [HN.out]; exact HAL.out))
      clear hbl
      go_wp2_with fail
      go_ret
      exact ⟨by rw [HO.out]; rfl, HBL.out⟩
set_option maxRecDepth 20000 in
set_option maxHeartbeats 4000000 in
theorem rfirst_any (kad : Option Addr) (kn kc : Nat) (keys : List ByteArray) (ad : Option Addr) (n c : Nat) (ws : List ByteArray) (w : World) (hk : Sl w kad kn (strs keys)) (hw : Sl w ad n (strs ws)) :
    Calls Tryz.prog 34 #[.slice kad kn kc, .slice ad n c] w fun e w' => e = .returned (.int .i64 (firstK keys ws)) ∧ Below w.heap.size w w' := by
  obtain ⟨kb, koff, hkr⟩ := hk
  obtain ⟨b, off, hr⟩ := hw
  have hn : ws.length = n := by have := hr.len; rwa [strs_length] at this
  have hkn : keys.length = kn := by have := hkr.len; rwa [strs_length] at this
  have HN := Lib.hid hn
  have HKN := Lib.hid hkn
  have HR := Lib.hid hr
  have HKR := Lib.hid hkr
  have hnm := hr.max
  have hkm := hkr.max
  clear hr hkr hn hkn
  obtain ⟨q, hq⟩ : ∃ q, firstK keys ws = q := ⟨_, rfl⟩
  rw [hq]
  have HQ := Lib.hid hq
  clear hq
  go_enter Tryz.func34, Tryz.ntmps34
  go_wp2_with fail
  go_loopw [5] (fun v wr => ∃ k : Nat, v = .int .i64 (k : Int) ∧ k ≤ n ∧ (∀ i, i < k → ws.getD i .empty ∉ keys) ∧ Below w.heap.size w wr) (fun v _ => n - (intOf v).toNat)
  case atStart => exact ⟨0, rfl, Nat.zero_le _, fun i hi => absurd hi (Nat.not_lt_zero _), Below.refl _ _⟩
  case round =>
    obtain ⟨wo, rfl⟩ : ∃ wo : World, wo = wr := ⟨_, rfl⟩
    obtain ⟨k, rfl, hkn, hal, hbl⟩ := hrel
    have HAL := Lib.hid hal
    have HBL := Lib.hid hbl
    have hzr := hbl.size
    clear hal hbl
    by_cases hlt : k < n
    · have hk0 : k < ws.length := by rw [HN.out]; exact hlt
      have hcw := HR.out.cell k hlt
      rw [strs_getD _ _ hk0] at hcw
      have CW := Lib.hid hcw
      have hbz : b < w.heap.size := World.block_lt_of_cell? _ _ hcw
      have HHIT : Hid (∀ j, j < kn → keys.getD j .empty = ws.getD k .empty → (∀ i, i < j → keys.getD i .empty ≠ ws.getD k .empty) → q = (j : Int)) := fun j hj e hmin => by
        have hin : ws.getD k .empty ∈ keys := e ▸ getD_mem keys j .empty (by rw [HKN.out]; exact hj)
        rw [Hid] at HQ
        rw [← HQ, firstK_hit hk0 HAL.out hin, ← idxS_in hin]
        exact idxP_hit (by rw [HKN.out]; exact hj) (by rw [e]; simp) (fun i hi => decide_eq_false (hmin i hi))
      have HMISS : Hid ((∀ i, i < kn → keys.getD i .empty ≠ ws.getD k .empty) → ∀ i, i < k + 1 → ws.getD i .empty ∉ keys) := fun h i hi => by
        by_cases e : i = k
        · subst e
          intro hc
          obtain ⟨j, hj, e⟩ := List.getElem_of_mem hc
          refine h j (by rw [← HKN.out]; exact hj) ?_
          rw [List.getD, List.getElem?_eq_getElem hj, Option.getD_some]
          exact e
        · exact HAL.out i (by omega)
      clear hcw hk0
      generalize ws.getD k .empty = wk at *
      go_wp2_with fail
      go_loopw [6] (fun v wi => ∃ j : Nat, v = .int .i64 (j : Int) ∧ j ≤ kn ∧ (∀ i, i < j → keys.getD i .empty ≠ wk) ∧ Below w.heap.size w wi) (fun v _ => kn - (intOf v).toNat)
      case atStart => exact ⟨0, rfl, Nat.zero_le _, fun i hi => absurd hi (Nat.not_lt_zero _), HBL.out⟩
      case round =>
        obtain ⟨wi, rfl⟩ : ∃ wi : World, wi = wr := ⟨_, rfl⟩
        obtain ⟨j, rfl, hjk, hal2, hbi⟩ := hrel
        have HAL2 := Lib.hid hal2
        have HBI := Lib.hid hbi
        have cw : wi.cell? ⟨b, off + k, none⟩ = some (.string wk) := (hbi.cell (p := ⟨b, off + k, none⟩) hbz).trans CW.out
        have hixw := fun W => HR.out.ix 28 9 Tryz.underlying28 (by kernel_rfl) hlt (c := c) W
        clear hal2
        by_cases hlt2 : j < kn
        · have hkr := HKR.out.below hbi
          have hixj := fun W => hkr.ix 28 9 Tryz.underlying28 (by kernel_rfl) hlt2 (c := kc) W
          have hcj := hkr.cell j hlt2
          rw [strs_getD _ _ (by rw [HKN.out]; exact hlt2)] at hcj
          have HH := Lib.hid (fun e => HHIT.out j hlt2 e HAL2.out)
          have HM : Hid (keys.getD j .empty ≠ wk → ∀ i, i < j + 1 → keys.getD i .empty ≠ wk) := fun h i hi => by
            by_cases e : i = j
            · subst e; exact h
            · exact HAL2.out i (by omega)
          clear hkr hbi
          generalize keys.getD j .empty = kj at *
          by_cases he : kj = wk
          · have HO := Lib.hid (HH.out he)
            subst he
            have e1 : (kj.toList == kj.toList) = true := by simp
            clear HH HM
            go_wp2_with fail
            go_quiet (fail)
            go_wp2_with fail
            go_ret
            exact ⟨by rw [HO.out]; rfl, by show Bel w _; exact Bel.drewN HBI.out _⟩
          · have HO := Lib.hid (HM.out he)
            have e1 : (kj.toList == wk.toList) = false := by rw [beq_eq_false_iff_ne]; exact fun e => he (ByteArray.ext (by simpa [ByteArray.toList_eq] using e))
            clear he HH HM
            go_wp2_with fail
            go_quiet (fail)
            go_wp2_with fail
            go_roundw
            case rel => exact ⟨j + 1, by go_num, by omega, HO.out, by show Bel w _; exact Bel.drewN HBI.out _⟩
            case measure => simp [intOf]; omega
        · obtain rfl : j = kn := by omega
          have HO := Lib.hid (HMISS.out HAL2.out)
          clear hbi
          go_wp2_with fail
          go_roundw
          case rel => exact ⟨k + 1, by go_num, by omega, HO.out, HBI.out⟩
          case measure => simp [intOf]; omega
    · obtain rfl : k = n := by omega
      have HO : Hid (q = -1) := HQ.out.symm.trans (firstK_miss (by rw [HN.out]; exact HAL.out))
      go_wp2_with fail
      go_ret
      exact ⟨by rw [HO.out]; rfl, HBL.out⟩
end Go.Proofs.YtadhblppeaamlaaGreatDoor
