/- Walks: the index of the key that is chosen. -/
import Derived.Test.YtadhblppeaamlaaGreatDoorQ14
import Derived.Test.YtadhblppeaamlaaGreatDoorQ01
namespace Go.Proofs.YtadhblppeaamlaaGreatDoor
open Go.RowKit
attribute [local go_sem] Ext.cell Ext.frozen
attribute [local go_sem ↓] Go.wp_at_zero Go.wp_at_succ

theorem idxS_in {keys : List ByteArray} {a : ByteArray} (h : a ∈ keys) : idxS keys a = ((keys.idxOf a : Nat) : Int) := by
  have h2 := List.idxOf_lt_length_of_mem h
  refine idxP_hit h2 ?_ fun i hi => ?_
  · rw [idxOf_getD h]; simp
  · rw [decide_eq_false_iff_not]
    intro e
    have h3 := List.not_of_lt_findIdx (p := (· == a)) (xs := keys) hi
    rw [List.getD, List.getElem?_eq_getElem (show i < keys.length by omega), Option.getD_some] at e
    rw [e] at h3
    simp at h3
theorem idxS_out {keys : List ByteArray} {a : ByteArray} (h : a ∉ keys) : idxS keys a = -1 := by
  refine idxP_miss fun i hi => ?_
  rw [decide_eq_false_iff_not]
  intro e
  exact h (e ▸ getD_mem keys i .empty hi)
theorem firstK_hit {keys : List ByteArray} : ∀ {l : List ByteArray} {k : Nat}, k < l.length → (∀ i, i < k → l.getD i .empty ∉ keys) → l.getD k .empty ∈ keys → firstK keys l = ((keys.idxOf (l.getD k .empty) : Nat) : Int)
  | a :: r, 0, _, _, h => firstK_in h
  | a :: r, k + 1, hk, hm, h => by
    rw [firstK_out (a := a) (hm 0 (Nat.succ_pos _))]
    exact firstK_hit (by simpa using hk) (fun i hi => hm (i + 1) (by omega)) h
theorem firstK_miss {keys : List ByteArray} : ∀ {l : List ByteArray}, (∀ i, i < l.length → l.getD i .empty ∉ keys) → firstK keys l = -1
  | [], _ => rfl
  | a :: r, hm => by
    rw [firstK_out (a := a) (hm 0 (by simp))]
    exact firstK_miss fun i hi => hm (i + 1) (by simpa using hi)
theorem rows_sl {w : World} {v : Value} {l : List ByteArray} (h : RowsOf 1 StrC w v l) : ∃ ad c, v = .slice ad l.length c ∧ Sl w ad l.length (strs l) ∧ (ad = none → c = 0) := by
  obtain ⟨ad, c, f, b, off, rfl, hr, hz, _, _, hf⟩ := h
  refine ⟨ad, c, rfl, ⟨b, off, strs_length l, hr.max, hr.adr, fun i hi => ?_⟩, hz⟩
  have := hr.cell i 0 hi (by omega)
  rw [Nat.mul_one, Nat.add_zero] at this
  rw [this, strs_getD _ _ hi, (RowsOf.get hf hi ByteArray.empty).1]
set_option maxRecDepth 20000 in
set_option maxHeartbeats 4000000 in
theorem cindex_any (x y : Nat → Value) (a b : List (ByteArray × List (List Rel))) (kind : Int) (kad : Option Addr) (kn kc : Nat) (keys : List ByteArray) (v : Vl) (w : World) (h : LocC w x a b) (hk : Sl w kad kn (strs keys)) (hv : ValC w y v) (ha : FewC a) (hb : FewC b) (hs : v.tx.size ≤ 1000) :
    Calls Tryz.prog 28 #[.agg #[x 0, x 1, x 2, x 3, x 4, x 5, x 6, x 7, x 8, x 9, x 10, x 11, x 12, x 13, x 14, x 15], .int .i64 kind, .slice kad kn kc, .agg #[y 0, y 1, y 2, y 3, y 4]] w fun e w' => e = .returned (.int .i64 (firstK keys (wantV kind (rulesV kind a b) v.tx))) ∧ Below w.heap.size w w' := by
  have HW : Hid (∀ W, Below w.heap.size w W → Calls Tryz.prog 54 #[.agg #[x 0, x 1, x 2, x 3, x 4, x 5, x 6, x 7, x 8, x 9, x 10, x 11, x 12, x 13, x 14, x 15], .int .i64 kind, .agg #[y 0, y 1, y 2, y 3, y 4]] W (WantP W (wantV kind (rulesV kind a b) v.tx))) := fun W g => wanted_any x y a b kind v W (h.below g) (hv.below g) ha hb hs
  have HI : Hid (∀ k W, Below w.heap.size w W → Calls Tryz.prog 55 #[.slice kad kn kc, .string k] W fun e w' => e = .returned (.int .i64 (idxS keys k)) ∧ W = w') := fun k W g => index_str kad kn kc keys k W (hk.below g)
  clear h hk hv ha hb hs
  generalize wantV kind (rulesV kind a b) v.tx = ws at *
  obtain ⟨q, hq⟩ : ∃ q, firstK keys ws = q := ⟨_, rfl⟩
  rw [hq]
  have HQ := Lib.hid hq
  clear hq
  generalize x 0 = x0 at *
  generalize x 1 = x1 at *
  generalize x 2 = x2 at *
  generalize x 3 = x3 at *
  generalize x 4 = x4 at *
  generalize x 5 = x5 at *
  generalize x 6 = x6 at *
  generalize x 7 = x7 at *
  generalize x 8 = x8 at *
  generalize x 9 = x9 at *
  generalize x 10 = x10 at *
  generalize x 11 = x11 at *
  generalize x 12 = x12 at *
  generalize x 13 = x13 at *
  generalize x 14 = x14 at *
  generalize x 15 = x15 at *
  generalize y 0 = y0 at *
  generalize y 1 = y1 at *
  generalize y 2 = y2 at *
  generalize y 3 = y3 at *
  generalize y 4 = y4 at *
  go_enter Tryz.func28, Tryz.ntmps28
  go_wp2_with fail
  refine (HW.out _ ?_).mono ?_
  · show Bel w _; repeat (first | exact Bel.refl _ | refine Bel.drew ?_ | refine Bel.drewN ?_ _ | refine Bel.alloc ?_ _ | refine Bel.ext ?_ _)
  rintro e w2 ⟨ad, n, c, rfl, hsl, hb2⟩
  have HBX : Hid (Below w.heap.size w w2) := Below.trans (by show Bel w _; exact ((Bel.refl _).alloc _).alloc _) (hb2.mono (by simp; omega))
  obtain ⟨b2, off, hr⟩ := hsl
  have hn : ws.length = n := by have := hr.len; rwa [strs_length] at this
  have HN := Lib.hid hn
  have HR := Lib.hid hr
  have hnm := hr.max
  clear hr hn hb2
  go_wp2_with fail
  go_loopw [17] (fun v wr => ∃ k : Nat, v = .int .i64 (k : Int) ∧ k ≤ n ∧ (∀ i, i < k → ws.getD i .empty ∉ keys) ∧ Below w2.heap.size w2 wr) (fun v _ => n - (intOf v).toNat)
  case atStart => exact ⟨0, rfl, Nat.zero_le _, fun i hi => absurd hi (Nat.not_lt_zero _), Below.refl _ _⟩
  case round =>
    obtain ⟨k, rfl, hkn, hal, hbl⟩ := hrel
    have HAL := Lib.hid hal
    have HBL : Hid (Below w.heap.size w wr) := HBX.out.trans (hbl.mono HBX.out.size)
    have HBL2 := Lib.hid hbl
    clear hal
    by_cases hlt : k < n
    · have hrr := HR.out.below hbl
      have hix := fun W => hrr.ix 28 9 Tryz.underlying28 (by kernel_rfl) hlt (c := c) W
      have hc := hrr.cell k hlt
      rw [strs_getD _ _ (by rw [HN.out]; exact hlt)] at hc
      have hk0 : k < ws.length := by rw [HN.out]; exact hlt
      have HII := Lib.hid (HI.out (ws.getD k .empty) wr HBL.out)
      have HHIT : Hid (ws.getD k .empty ∈ keys → q = idxS keys (ws.getD k .empty)) := fun h => by
        rw [Hid] at HQ
        rw [← HQ, firstK_hit hk0 HAL.out h, idxS_in h]
      have HMISS : Hid (ws.getD k .empty ∉ keys → ∀ i, i < k + 1 → ws.getD i .empty ∉ keys) := fun h i hi => by
        by_cases e : i = k
        · subst e; exact h
        · exact HAL.out i (by omega)
      clear hrr hbl hk0
      generalize ws.getD k .empty = ky at *
      by_cases hm : ky ∈ keys
      · have HO := Lib.hid (HHIT.out hm)
        rw [Hid, idxS_in hm] at HO HII
        replace HO := Lib.hid HO
        replace HII := Lib.hid HII
        generalize keys.idxOf ky = j at *
        clear HHIT HMISS hm
        go_wp2_with fail
        refine HII.out.mono ?_
        rintro e _ ⟨rfl, rfl⟩
        go_wp2_with fail
        go_ret
        exact ⟨by rw [HO.out]; rfl, HBL.out⟩
      · have HO := Lib.hid (HMISS.out hm)
        rw [Hid, idxS_out hm] at HII
        replace HII := Lib.hid HII
        clear HHIT HMISS hm
        go_wp2_with fail
        refine HII.out.mono ?_
        rintro e _ ⟨rfl, rfl⟩
        go_wp2_with fail
        go_roundw
        case rel => exact ⟨k + 1, by go_num, by omega, HO.out, HBL2.out⟩
        case measure => simp [intOf]; omega
    · obtain rfl : k = n := by omega
      have HO : Hid (q = -1) := HQ.out.symm.trans (firstK_miss (by rw [HN.out]; exact HAL.out))
      clear hbl
      go_wp2_with fail
      go_ret
      exact ⟨by rw [HO.out]; rfl, HBL.out⟩
set_option maxRecDepth 20000 in
set_option maxHeartbeats 4000000 in
theorem rfirst_any (kad : Option Addr) (kn kc : Nat) (keys : List ByteArray) (ad : Option Addr) (n c : Nat) (ws : List ByteArray) (w : World) (hk : Sl w kad kn (strs keys)) (hw : Sl w ad n (strs ws)) :
    Calls Tryz.prog 34 #[.slice kad kn kc, .slice ad n c] w fun e w' => e = .returned (.int .i64 (firstK keys ws)) ∧ Below w.heap.size w w' := by
  obtain ⟨kb, koff, hkr⟩ := hk
  obtain ⟨b, off, hr⟩ := hw
  have hn : ws.length = n := by have := hr.len; rwa [strs_length] at this
  have hkn : keys.length = kn := by have := hkr.len; rwa [strs_length] at this
  have HN := Lib.hid hn
  have HKN := Lib.hid hkn
  have HR := Lib.hid hr
  have HKR := Lib.hid hkr
  have hnm := hr.max
  have hkm := hkr.max
  clear hr hkr hn hkn
  obtain ⟨q, hq⟩ : ∃ q, firstK keys ws = q := ⟨_, rfl⟩
  rw [hq]
  have HQ := Lib.hid hq
  clear hq
  go_enter Tryz.func34, Tryz.ntmps34
  go_wp2_with fail
  go_loopw [5] (fun v wr => ∃ k : Nat, v = .int .i64 (k : Int) ∧ k ≤ n ∧ (∀ i, i < k → ws.getD i .empty ∉ keys) ∧ Below w.heap.size w wr) (fun v _ => n - (intOf v).toNat)
  case atStart => exact ⟨0, rfl, Nat.zero_le _, fun i hi => absurd hi (Nat.not_lt_zero _), Below.refl _ _⟩
  case round =>
    obtain ⟨wo, rfl⟩ : ∃ wo : World, wo = wr := ⟨_, rfl⟩
    obtain ⟨k, rfl, hkn, hal, hbl⟩ := hrel
    have HAL := Lib.hid hal
    have HBL := Lib.hid hbl
    have hzr := hbl.size
    clear hal hbl
    by_cases hlt : k < n
    · have hk0 : k < ws.length := by rw [HN.out]; exact hlt
      have hcw := HR.out.cell k hlt
      rw [strs_getD _ _ hk0] at hcw
      have CW := Lib.hid hcw
      have hbz : b < w.heap.size := World.block_lt_of_cell? _ _ hcw
      have HHIT : Hid (∀ j, j < kn → keys.getD j .empty = ws.getD k .empty → (∀ i, i < j → keys.getD i .empty ≠ ws.getD k .empty) → q = (j : Int)) := fun j hj e hmin => by
        have hin : ws.getD k .empty ∈ keys := e ▸ getD_mem keys j .empty (by rw [HKN.out]; exact hj)
        rw [Hid] at HQ
        rw [← HQ, firstK_hit hk0 HAL.out hin, ← idxS_in hin]
        exact idxP_hit (by rw [HKN.out]; exact hj) (by rw [e]; simp) (fun i hi => decide_eq_false (hmin i hi))
      have HMISS : Hid ((∀ i, i < kn → keys.getD i .empty ≠ ws.getD k .empty) → ∀ i, i < k + 1 → ws.getD i .empty ∉ keys) := fun h i hi => by
        by_cases e : i = k
        · subst e
          intro hc
          obtain ⟨j, hj, e⟩ := List.getElem_of_mem hc
          refine h j (by rw [← HKN.out]; exact hj) ?_
          rw [List.getD, List.getElem?_eq_getElem hj, Option.getD_some]
          exact e
        · exact HAL.out i (by omega)
      clear hcw hk0
      generalize ws.getD k .empty = wk at *
      go_wp2_with fail
      go_loopw [6] (fun v wi => ∃ j : Nat, v = .int .i64 (j : Int) ∧ j ≤ kn ∧ (∀ i, i < j → keys.getD i .empty ≠ wk) ∧ Below w.heap.size w wi) (fun v _ => kn - (intOf v).toNat)
      case atStart => exact ⟨0, rfl, Nat.zero_le _, fun i hi => absurd hi (Nat.not_lt_zero _), HBL.out⟩
      case round =>
        obtain ⟨wi, rfl⟩ : ∃ wi : World, wi = wr := ⟨_, rfl⟩
        obtain ⟨j, rfl, hjk, hal2, hbi⟩ := hrel
        have HAL2 := Lib.hid hal2
        have HBI := Lib.hid hbi
        have cw : wi.cell? ⟨b, off + k, none⟩ = some (.string wk) := (hbi.cell (p := ⟨b, off + k, none⟩) hbz).trans CW.out
        have hixw := fun W => HR.out.ix 28 9 Tryz.underlying28 (by kernel_rfl) hlt (c := c) W
        clear hal2
        by_cases hlt2 : j < kn
        · have hkr := HKR.out.below hbi
          have hixj := fun W => hkr.ix 28 9 Tryz.underlying28 (by kernel_rfl) hlt2 (c := kc) W
          have hcj := hkr.cell j hlt2
          rw [strs_getD _ _ (by rw [HKN.out]; exact hlt2)] at hcj
          have HH := Lib.hid (fun e => HHIT.out j hlt2 e HAL2.out)
          have HM : Hid (keys.getD j .empty ≠ wk → ∀ i, i < j + 1 → keys.getD i .empty ≠ wk) := fun h i hi => by
            by_cases e : i = j
            · subst e; exact h
            · exact HAL2.out i (by omega)
          clear hkr hbi
          generalize keys.getD j .empty = kj at *
          by_cases he : kj = wk
          · have HO := Lib.hid (HH.out he)
            subst he
            have e1 : (kj.toList == kj.toList) = true := by simp
            clear HH HM
            go_wp2_with fail
            go_quiet (fail)
            go_wp2_with fail
            go_ret
            exact ⟨by rw [HO.out]; rfl, by show Bel w _; exact Bel.drewN HBI.out _⟩
          · have HO := Lib.hid (HM.out he)
            have e1 : (kj.toList == wk.toList) = false := by rw [beq_eq_false_iff_ne]; exact fun e => he (ByteArray.ext (by simpa [ByteArray.toList_eq] using e))
            clear he HH HM
            go_wp2_with fail
            go_quiet (fail)
            go_wp2_with fail
            go_roundw
            case rel => exact ⟨j + 1, by go_num, by omega, HO.out, by show Bel w _; exact Bel.drewN HBI.out _⟩
            case measure => simp [intOf]; omega
        · obtain rfl : j = kn := by omega
          have HO := Lib.hid (HMISS.out HAL2.out)
          clear hbi
          go_wp2_with fail
          go_roundw
          case rel => exact ⟨k + 1, by go_num, by omega, HO.out, HBI.out⟩
          case measure => simp [intOf]; omega
    · obtain rfl : k = n := by omega
      have HO : Hid (q = -1) := HQ.out.symm.trans (firstK_miss (by rw [HN.out]; exact HAL.out))
      go_wp2_with fail
      go_ret
      exact ⟨by rw [HO.out]; rfl, HBL.out⟩
end Go.Proofs.YtadhblppeaamlaaGreatDoor
/- Plain: what Choose and Key answer; the order of the cases, and a further case, as the statements say. -/
namespace Go.Proofs.YtadhblppeaamlaaGreatDoor
open Go.RowKit

/-- what Choose answers, where the value of the name is v, if there is one -/
def chooseW (kind : Int) (rs : List (ByteArray × List (List Rel))) (keys : List ByteArray) (ok : Bool) (v : Vl) : Int × Nat :=
  if decide (7 ≤ kind ∧ kind ≤ 9) = false then (0, 1) else if validR rs = false then (0, 18) else if ok = false then (0, 12) else if suitV kind v = false then (0, 11)
  else if firstK keys (wantV kind rs v.tx) < 0 then (0, 13) else (firstK keys (wantV kind rs v.tx), 0)
theorem chooseW_sel {kind : Int} {rs keys ok v} (h1 : decide (7 ≤ kind ∧ kind ≤ 9) = false) : chooseW kind rs keys ok v = (0, 1) := by unfold chooseW; rw [if_pos h1]
theorem chooseW_inv {kind : Int} {rs keys ok v} (h1 : decide (7 ≤ kind ∧ kind ≤ 9) = true) (h2 : validR rs = false) : chooseW kind rs keys ok v = (0, 18) := by
  unfold chooseW; rw [if_neg (by rw [h1]; simp), if_pos h2]
theorem chooseW_miss {kind : Int} {rs keys ok v} (h1 : decide (7 ≤ kind ∧ kind ≤ 9) = true) (h2 : validR rs = true) (h5 : ok = false) : chooseW kind rs keys ok v = (0, 12) := by
  unfold chooseW; rw [if_neg (by rw [h1]; simp), if_neg (by rw [h2]; simp), if_pos h5]
theorem chooseW_type {kind : Int} {rs keys ok v} (h1 : decide (7 ≤ kind ∧ kind ≤ 9) = true) (h2 : validR rs = true) (h5 : ok = true) (h3 : suitV kind v = false) : chooseW kind rs keys ok v = (0, 11) := by
  unfold chooseW; rw [if_neg (by rw [h1]; simp), if_neg (by rw [h2]; simp), if_neg (by rw [h5]; simp), if_pos h3]
theorem chooseW_first {kind : Int} {rs keys ok v} (h1 : decide (7 ≤ kind ∧ kind ≤ 9) = true) (h2 : validR rs = true) (h5 : ok = true) (h3 : suitV kind v = true) :
    chooseW kind rs keys ok v = if firstK keys (wantV kind rs v.tx) < 0 then (0, 13) else (firstK keys (wantV kind rs v.tx), 0) := by
  unfold chooseW; rw [if_neg (by rw [h1]; simp), if_neg (by rw [h2]; simp), if_neg (by rw [h5]; simp), if_neg (by rw [h3]; simp)]
/-- what Key answers, told alike -/
theorem keyV_eq (kind : Int) (rs : List (ByteArray × List (List Rel))) (keys : List ByteArray) (v : Vl) : keyV kind rs keys v =
    if decide (7 ≤ kind ∧ kind ≤ 9) = false then (.empty, 1) else if validR rs = false then (.empty, 18) else if suitV kind v = false then (.empty, 11)
    else if firstK keys (wantV kind rs v.tx) < 0 then (.empty, 13) else (keys.getD (firstK keys (wantV kind rs v.tx)).toNat .empty, 0) := by
  unfold keyV ahead
  by_cases h1 : 7 ≤ kind ∧ kind ≤ 9
  · rw [if_neg (c := decide _ = false) (by simp [h1])]
    cases h2 : validR rs with
    | false => simp [h1]
    | true =>
      cases h3 : suitV kind v <;> simp [h1, h3]
  · rw [if_pos (c := decide _ = false) (by simp only [decide_eq_false_iff_not]; exact h1), if_pos (c := ¬ (7 ≤ kind ∧ kind ≤ 9)) h1]
    rfl
theorem firstK_mem {keys : List ByteArray} : ∀ {l : List ByteArray}, 0 ≤ firstK keys l → ∃ a ∈ l, a ∈ keys ∧ firstK keys l = ((keys.idxOf a : Nat) : Int)
  | [], h => by simp [firstK] at h
  | a :: r, h => by
    by_cases ha : a ∈ keys
    · exact ⟨a, List.mem_cons_self, ha, firstK_in ha⟩
    · rw [firstK_out ha] at h ⊢
      obtain ⟨b, hb, hk, e⟩ := firstK_mem h
      exact ⟨b, List.mem_cons_of_mem _ hb, hk, e⟩
theorem firstK_neg {keys : List ByteArray} : ∀ {l : List ByteArray}, firstK keys l < 0 → ∀ a ∈ l, a ∉ keys
  | [], _, a, h => by cases h
  | b :: r, h, a, ha => by
    by_cases hb : b ∈ keys
    · rw [firstK_in hb] at h; omega
    · rw [firstK_out hb] at h
      rcases List.mem_cons.1 ha with rfl | ha
      · exact hb
      · exact firstK_neg h a ha
theorem other_want (kind : Int) (rs : List (ByteArray × List (List Rel))) (tx : ByteArray) : otherB ∈ wantV kind rs tx := by
  unfold wantV; split <;> simp
/-- what Choose and Key answer for a value that is there -/
theorem one_law (kind : Int) (rs : List (ByteArray × List (List Rel))) (keys : List ByteArray) (v : Vl) :
    ((chooseW kind rs keys true v).2 ≠ 0 → (chooseW kind rs keys true v).2 = (keyV kind rs keys v).2 ∧ (otherB ∈ keys → (chooseW kind rs keys true v).2 ≠ 13)) ∧
    ((chooseW kind rs keys true v).2 = 0 → (keyV kind rs keys v).2 = 0 ∧ ∃ j : Nat, j < keys.length ∧ (chooseW kind rs keys true v).1 = (j : Int) ∧ keys.getD j .empty = (keyV kind rs keys v).1) := by
  rw [keyV_eq]
  cases h1 : decide (7 ≤ kind ∧ kind ≤ 9) with
  | false => rw [chooseW_sel h1, if_pos rfl]; exact ⟨fun _ => ⟨rfl, fun _ => by simp⟩, fun h => by cases h⟩
  | true =>
    rw [if_neg (by simp)]
    cases h2 : validR rs with
    | false => rw [chooseW_inv h1 h2, if_pos rfl]; exact ⟨fun _ => ⟨rfl, fun _ => by simp⟩, fun h => by cases h⟩
    | true =>
      rw [if_neg (by simp)]
      cases h3 : suitV kind v with
      | false => rw [chooseW_type h1 h2 rfl h3, if_pos rfl]; exact ⟨fun _ => ⟨rfl, fun _ => by simp⟩, fun h => by cases h⟩
      | true =>
        rw [chooseW_first h1 h2 rfl h3, if_neg (c := true = false) (by simp)]
        by_cases hf : firstK keys (wantV kind rs v.tx) < 0
        · rw [if_pos hf, if_pos hf]
          exact ⟨fun _ => ⟨rfl, fun ho => absurd ho (firstK_neg hf _ (other_want _ _ _))⟩, fun h => by cases h⟩
        · rw [if_neg hf, if_neg hf]
          obtain ⟨a, _, hk, e⟩ := firstK_mem (Int.not_lt.1 hf)
          refine ⟨fun h => absurd rfl h, fun _ => ⟨rfl, keys.idxOf a, List.idxOf_lt_length_of_mem hk, e, ?_⟩⟩
          show _ = keys.getD (firstK keys (wantV kind rs v.tx)).toNat .empty
          rw [e, Int.toNat_natCast]
/-- the first wanted key that is there -/
theorem firstK_same {keys keys2 : List ByteArray} (h : ∀ a, a ∈ keys ↔ a ∈ keys2) : ∀ (l : List ByteArray), (firstK keys l = -1 ∧ firstK keys2 l = -1) ∨ ∃ a, a ∈ keys ∧ firstK keys l = ((keys.idxOf a : Nat) : Int) ∧ firstK keys2 l = ((keys2.idxOf a : Nat) : Int)
  | [] => .inl ⟨rfl, rfl⟩
  | a :: r => by
    by_cases ha : a ∈ keys
    · exact .inr ⟨a, ha, firstK_in ha, firstK_in ((h a).1 ha)⟩
    · rw [firstK_out ha, firstK_out (fun h2 => ha ((h a).2 h2))]
      exact firstK_same h r
/-- the cases in another order -/
theorem order_law (kind : Int) (rs : List (ByteArray × List (List Rel))) (keys keys2 : List ByteArray) (ok : Bool) (v : Vl) (h : ∀ a, a ∈ keys ↔ a ∈ keys2) :
    (chooseW kind rs keys ok v).2 = (chooseW kind rs keys2 ok v).2 ∧
    ((chooseW kind rs keys ok v).2 = 0 → ∃ j k : Nat, j < keys.length ∧ k < keys2.length ∧ (chooseW kind rs keys ok v).1 = (j : Int) ∧ (chooseW kind rs keys2 ok v).1 = (k : Int) ∧ keys.getD j .empty = keys2.getD k .empty) := by
  cases h1 : decide (7 ≤ kind ∧ kind ≤ 9) with
  | false => rw [chooseW_sel h1, chooseW_sel h1]; exact ⟨rfl, fun h => by cases h⟩
  | true =>
    cases h2 : validR rs with
    | false => rw [chooseW_inv h1 h2, chooseW_inv h1 h2]; exact ⟨rfl, fun h => by cases h⟩
    | true =>
      cases h5 : ok with
      | false => rw [chooseW_miss h1 h2 rfl, chooseW_miss h1 h2 rfl]; exact ⟨rfl, fun h => by cases h⟩
      | true =>
        cases h3 : suitV kind v with
        | false => rw [chooseW_type h1 h2 rfl h3, chooseW_type h1 h2 rfl h3]; exact ⟨rfl, fun h => by cases h⟩
        | true =>
          rw [chooseW_first h1 h2 rfl h3, chooseW_first h1 h2 rfl h3]
          rcases firstK_same h (wantV kind rs v.tx) with ⟨e1, e2⟩ | ⟨a, ha, e1, e2⟩
          · rw [e1, e2]; exact ⟨rfl, fun h => by cases h⟩
          · have ha2 := (h a).1 ha
            rw [e1, e2, if_neg (by omega), if_neg (by omega)]
            exact ⟨rfl, fun _ => ⟨_, _, List.idxOf_lt_length_of_mem ha, List.idxOf_lt_length_of_mem ha2, rfl, rfl, by rw [idxOf_getD ha, idxOf_getD ha2]⟩⟩
/-- the first wanted key, and one key more behind -/
theorem firstK_snoc {keys : List ByteArray} {x : ByteArray} : ∀ (l : List ByteArray), 0 ≤ firstK keys l → firstK (keys ++ [x]) l = firstK keys l ∨ (firstK (keys ++ [x]) l = (keys.length : Int) ∧ x ∈ l ∧ x ∉ keys ∧ ∃ l1 l2, l = l1 ++ l2 ∧ x ∈ l1 ∧ 0 ≤ firstK keys l2 ∧ (∀ a ∈ l1, a ∉ keys))
  | [], h => by simp [firstK] at h
  | a :: r, h => by
    by_cases ha : a ∈ keys
    · left
      rw [firstK_in ha, firstK_in (List.mem_append_left _ ha), List.idxOf_append, if_pos ha]
    · rw [firstK_out ha] at h ⊢
      by_cases hx : a = x
      · subst hx
        right
        rw [firstK_in (by simp), List.idxOf_append, if_neg ha]
        exact ⟨by simp, List.mem_cons_self, ha, [a], r, rfl, by simp, h, by simpa using ha⟩
      · rw [firstK_out (by simp [ha, hx])]
        rcases firstK_snoc r h with e | ⟨e, h1, h2, l1, l2, e3, h4, h5, h6⟩
        · exact .inl e
        · refine .inr ⟨e, List.mem_cons_of_mem _ h1, h2, a :: l1, l2, by rw [e3]; rfl, List.mem_cons_of_mem _ h4, h5, fun b hb => ?_⟩
          rcases List.mem_cons.1 hb with rfl | hb
          · exact ha
          · exact h6 b hb
/-- one case more, at the end -/
theorem more_law (kind : Int) (rs : List (ByteArray × List (List Rel))) (keys : List ByteArray) (x : ByteArray) (v : Vl) (h : (chooseW kind rs keys true v).2 = 0) :
    (chooseW kind rs (keys ++ [x]) true v).2 = 0 ∧ ((chooseW kind rs (keys ++ [x]) true v).1 = (chooseW kind rs keys true v).1 ∨
      (chooseW kind rs (keys ++ [x]) true v).1 = (keys.length : Int) ∧ (kind = 9 ∧ x = v.tx ∨ kind ≠ 9 ∧ (x = bs (61 :: v.tx.data.toList) ∨ x = (clsV kind rs v.tx.data.toList).1))) := by
  cases h1 : decide (7 ≤ kind ∧ kind ≤ 9) with
  | false => rw [chooseW_sel h1] at h; cases h
  | true =>
    cases h2 : validR rs with
    | false => rw [chooseW_inv h1 h2] at h; cases h
    | true =>
      cases h3 : suitV kind v with
      | false => rw [chooseW_type h1 h2 rfl h3] at h; cases h
      | true =>
        rw [chooseW_first h1 h2 rfl h3] at h ⊢
        rw [chooseW_first h1 h2 rfl h3]
        by_cases hf : firstK keys (wantV kind rs v.tx) < 0
        · rw [if_pos hf] at h; cases h
        have hf0 : 0 ≤ firstK keys (wantV kind rs v.tx) := Int.not_lt.1 hf
        rw [if_neg hf]
        rcases firstK_snoc (x := x) (wantV kind rs v.tx) hf0 with e | ⟨e, h4, h5, l1, l2, e6, h7, h8, h9⟩
        · rw [e, if_neg hf]; exact ⟨rfl, .inl rfl⟩
        · rw [e, if_neg (by omega)]
          refine ⟨rfl, .inr ⟨rfl, ?_⟩⟩
          have hk := of_decide_eq_true h1
          have hl2 : l2 ≠ [] := fun e => by rw [e] at h8; simp [firstK] at h8
          by_cases k9 : kind = 9
          · refine .inl ⟨k9, ?_⟩
            have e6' : [v.tx, otherB] = l1 ++ l2 := by rw [← e6]; unfold wantV; rw [if_pos k9]
            match l1, e6' with
            | [], _ => cases h7
            | [a], e6' =>
              injection e6' with e1 _
              have : x = a := by simpa using h7
              rw [this, e1]
            | a :: b :: r, e6' =>
              injection e6' with _ e2
              injection e2 with _ e3
              have := List.append_eq_nil_iff.1 e3.symm
              exact absurd this.2 hl2
          · refine .inr ⟨k9, ?_⟩
            have e6' : [bs (61 :: v.tx.data.toList), (classV rs v.tx.data.toList).1, otherB] = l1 ++ l2 := by rw [← e6]; unfold wantV; rw [if_neg k9]
            have hd : dOk v.tx.data.toList = true := by
              simp only [suitV, if_neg k9, Bool.and_eq_true, decide_eq_true_eq] at h3
              have h3a := h3.1
              unfold properVl at h3a
              rw [if_neg (by omega), if_pos h3.2] at h3a
              simp only [Bool.and_eq_true] at h3a
              exact h3a.1.1
            have hc : (clsV kind rs v.tx.data.toList).1 = (classV rs v.tx.data.toList).1 := by
              unfold clsV classV
              rw [if_pos ⟨by omega, hd⟩, if_pos h2, if_pos (by rw [h2, hd]; rfl)]
            rw [hc]
            match l1, e6' with
            | [], _ => cases h7
            | [a], e6' =>
              injection e6' with e1 _
              have : x = a := by simpa using h7
              exact .inl (by rw [this, e1])
            | [a, b], e6' =>
              injection e6' with e1 e2
              injection e2 with e2 _
              have : x = a ∨ x = b := by simpa using h7
              rcases this with r | r
              · exact .inl (by rw [r, e1])
              · exact .inr (by rw [r, e2])
            | a :: b :: c :: r, e6' =>
              injection e6' with _ e2
              injection e2 with _ e3
              injection e3 with _ e4
              have := List.append_eq_nil_iff.1 e4.symm
              exact absurd this.2 hl2
end Go.Proofs.YtadhblppeaamlaaGreatDoor
