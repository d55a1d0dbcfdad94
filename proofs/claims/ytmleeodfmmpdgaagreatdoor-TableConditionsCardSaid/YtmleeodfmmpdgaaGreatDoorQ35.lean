/- Walks over a condition in the reference: whether it is short. -/
import Derived.Test.YtmleeodfmmpdgaaGreatDoorQ34
import Derived.Test.YtmleeodfmmpdgaaGreatDoorQ23
import Derived.Test.YtmleeodfmmpdgaaGreatDoorQ33
import Derived.Test.YtmleeodfmmpdgaaGreatDoorQ29
namespace Go.Proofs.YtmleeodfmmpdgaaGreatDoor
open Go.RowKit
attribute [local go_sem] Ext.cell Ext.frozen
attribute [local go_sem ↓] Go.wp_at_zero Go.wp_at_succ

def BoolIf (w : World) (P : Prop) (e : Ending) (w' : World) : Prop := ∃ q : Bool, e = .returned (.bool q) ∧ w = w' ∧ (q = true → P)
set_option maxRecDepth 20000 in
set_option maxHeartbeats 1000000 in
theorem cfewl_any (v : Value) (l : List (List Rel)) (w : World) (h : CondAt w v l) : Calls Tryz.prog 17 #[v] w (BoolIf w (l.length ≤ 30)) := by
  obtain ⟨ad, c, f, b, off, rfl, hr, _, _, _, hf0⟩ := h
  have hf : ∀ i, i < l.length → RelRows w (f i 0) := fun i hi => by
    obtain ⟨ad2, c2, f2, b2, off2, h1, h2, _, _, _, h5⟩ := RowsOf.get hf0 hi []
    exact ⟨ad2, _, c2, f2, b2, off2, h1, h2, fun j hj => by
      obtain ⟨_, _, _, ad3, c3, f3, b3, off3, h6, h7, _⟩ := RowsOf.get h5 hj ⟨0, 0, false, []⟩
      exact ⟨ad3, _, c3, h6, h7.max⟩⟩
  generalize l.length = n at *
  clear hf0
  have HR := Lib.hid hr
  have HF := Lib.hid hf
  have hnm := hr.max
  clear hr hf
  go_enter Tryz.func17, Tryz.ntmps17
  go_wp2_with fail
  go_loop [3, 4] (fun u v => ∃ (k : Nat) (z : Int), v = .int .i64 (k : Int) ∧ k ≤ n ∧ u = .int .i64 z) (fun _ v => n - (intOf v).toNat)
  case atStart => exact ⟨0, 0, rfl, Nat.zero_le _, rfl⟩
  case round =>
    obtain ⟨k, z, rfl, hkn, rfl⟩ := hrel
    by_cases hlt : k < n
    · have hix := fun W => HR.out.ix 48 91 Tryz.underlying48 (by kernel_rfl) (by omega) hlt c W
      rw [Nat.mul_one] at hix
      have hc := HR.out.cell k 0 hlt (by omega)
      rw [Nat.mul_one, Nat.add_zero] at hc
      obtain ⟨ad2, n2, c2, f2, b2, off2, hv2, hr2, hs2⟩ := HF.out k hlt
      rw [hv2] at hc
      have HR2 := Lib.hid hr2
      have HS2 := Lib.hid hs2
      have hnm2 := hr2.max
      clear hv2 hr2 hs2
      go_wp2_with fail
      go_loop [3, 5] (fun u v => ∃ (q : Nat) (z : Int), v = .int .i64 (q : Int) ∧ q ≤ n2 ∧ u = .int .i64 z) (fun _ v => n2 - (intOf v).toNat)
      case atStart => exact ⟨0, z, rfl, Nat.zero_le _, rfl⟩
      case round =>
        obtain ⟨q, z2, rfl, hqn, rfl⟩ := hrel
        by_cases hlt2 : q < n2
        · have hix2 := fun W => HR2.out.ix 91 94 Tryz.underlying91 (by kernel_rfl) (by omega) hlt2 c2 W
          obtain ⟨a3, m3, c3, h3, hm3⟩ := HS2.out q hlt2
          have hc2 := HR2.out.cell q 3 hlt2 (by omega)
          rw [h3] at hc2
          clear h3
          go_wp2_with fail
          go_round
          case rel => exact ⟨q + 1, _, by go_num, by omega, rfl⟩
          case measure => simp [intOf]; omega
        · obtain rfl : q = n2 := by omega
          by_cases h80 : 80 < z2
          · go_wp2_with fail
            go_ret
            exact ⟨false, rfl, rfl, fun h => (by cases h)⟩
          · go_wp2_with fail
            go_round
            case rel => exact ⟨k + 1, z2, by go_num, by omega, rfl⟩
            case measure => simp [intOf]; omega
    · obtain rfl : k = n := by omega
      go_wp2_with fail
      go_ret
      exact ⟨_, rfl, rfl, fun h => by have := of_decide_eq_true h; omega⟩

theorem listOk_ne {l : List Rel} (h0 : l.length ≠ 0) : listOk l = l.all properV := by
  unfold listOk
  cases l with
  | nil => exact absurd rfl h0
  | cons a r => rfl
set_option maxRecDepth 20000 in
set_option maxHeartbeats 4000000 in
theorem rcvalid_any (v : Value) (l : List (List Rel)) (w : World) (h : CondAt w v l) (hl : l.length ≤ 30) : Calls Tryz.prog 39 #[v] w fun e w' => e = .returned (.bool (validC l)) ∧ Below w.heap.size w w' := by
  obtain ⟨ad, c, f, b, off, rfl, hr, _, _, _, hf⟩ := h
  obtain ⟨n, hn⟩ : ∃ n, l.length = n := ⟨_, rfl⟩
  rw [hn] at hr hl ⊢
  have hbig : ∀ k, k ≤ n → relN (l.take k) ≤ 30 * 140737488351232 := fun k hk => by
    have h1 := relN_le (c := l.take k) (M := 140737488351232) fun x hx => by
      obtain ⟨i, hi⟩ := List.getElem?_of_mem (List.mem_of_mem_take hx)
      obtain ⟨_, _, _, _, _, _, _, _, _, h5, _⟩ := hf i x hi
      exact h5
    rw [List.length_take] at h1
    exact Nat.le_trans h1 (Nat.mul_le_mul_right _ (by omega))
  have HN := Lib.hid hn
  have HR := Lib.hid hr
  have HF := Lib.hid hf
  have HBG := Lib.hid hbig
  clear hr hf hn hbig
  obtain ⟨q, hq⟩ : ∃ q, validC l = q := ⟨_, rfl⟩
  rw [hq]
  have HQ := Lib.hid hq
  clear hq
  go_enter Tryz.func39, Tryz.ntmps39
  go_wp2_with fail
  go_loopw [3, 4] (fun u v wr => ∃ k : Nat, v = .int .i64 (k : Int) ∧ k ≤ n ∧ u = .int .i64 (relN (l.take k) : Nat) ∧ (∀ i, i < k → listOk (l.getD i []) = true) ∧ Below w.heap.size w wr) (fun _ v _ => n - (intOf v).toNat)
  case atStart => exact ⟨0, rfl, Nat.zero_le _, rfl, fun i hi => absurd hi (Nat.not_lt_zero _), Below.refl _ _⟩
  case round =>
    obtain ⟨wo, rfl⟩ : ∃ wo : World, wo = wr := ⟨_, rfl⟩
    obtain ⟨k, rfl, hkn, rfl, hal, hbl⟩ := hrel
    have HAL := Lib.hid hal
    have HBL := Lib.hid hbl
    have hzr := hbl.size
    clear hal hbl
    by_cases hlt : k < n
    · have hrr := HR.out.below HBL.out
      have hix := fun W => hrr.ix 48 91 Tryz.underlying48 (by kernel_rfl) (by omega) hlt c W
      rw [Nat.mul_one] at hix
      have c0 : wo.cell? ⟨b, off + k * 1, none⟩ = some (f k 0) := hrr.cell k 0 hlt (by omega)
      rw [Nat.mul_one] at c0
      have hk0 : k < l.length := by rw [HN.out]; exact hlt
      obtain ⟨ad2, c2, f2, b2, off2, hv2, hr2, _, _, hm5, hf2⟩ := (RowsOf.get HF.out hk0 [] : RelsC w (f k) _).below HBL.out
      rw [hv2] at c0
      have hbg := HBG.out (k + 1) hlt
      rw [relN_getD hk0] at hbg
      have HEQ : Hid (relN (l.take (k + 1)) = relN (l.take k) + (l.getD k []).length) := relN_getD hk0
      have HNO : Hid (listOk (l.getD k []) = false → q = false) := fun h => HQ.out.symm.trans (validC_no hk0 h)
      have HYES : Hid (listOk (l.getD k []) = true → ∀ i, i < k + 1 → listOk (l.getD i []) = true) := fun h i hi => by
        by_cases e : i = k
        · subst e; exact h
        · exact HAL.out i (by omega)
      clear hrr hk0 hv2
      generalize l.getD k [] = ls at *
      obtain ⟨m, hm⟩ : ∃ m, ls.length = m := ⟨_, rfl⟩
      rw [hm] at hr2 c0 hbg hm5
      rw [Hid, hm] at HEQ
      replace HEQ := Lib.hid HEQ
      have HM := Lib.hid hm
      have HR2 := Lib.hid hr2
      have HF2 := Lib.hid hf2
      have C0 := Lib.hid c0
      have hbz : b < wo.heap.size := World.block_lt_of_cell? _ _ c0
      clear hm hr2 hf2
      generalize relN (l.take k) = s at *
      by_cases h0 : m = 0
      · subst h0
        have HO := Lib.hid (HNO.out (by unfold listOk; rw [List.length_eq_zero_iff.1 HM.out]; rfl))
        clear HNO HYES
        go_wp2_with fail
        go_ret
        exact ⟨by rw [HO.out]; rfl, HBL.out⟩
      · have h1 : ¬ ((m : Int) = 0) := by omega
        have e0 : ((m : Int) == 0) = false := by rw [beq_eq_false_iff_ne]; exact h1
        have HE : Hid (listOk ls = ls.all properV) := listOk_ne (by rw [HM.out]; exact h0)
        rw [Hid, HE.out] at HNO HYES
        replace HNO := Lib.hid HNO
        replace HYES := Lib.hid HYES
        clear HE c0
        have c0 := C0.out
        go_wp2_with fail
        go_loopw [3, 5] (fun u v wi => ∃ j : Nat, v = .int .i64 (j : Int) ∧ j ≤ m ∧ u = .int .i64 ((s + j : Nat) : Int) ∧ (∀ i, i < j → properV (ls.getD i ⟨0, 0, false, []⟩) = true) ∧ Below wo.heap.size wo wi) (fun _ v _ => m - (intOf v).toNat)
        case atStart => exact ⟨0, rfl, Nat.zero_le _, rfl, fun i hi => absurd hi (Nat.not_lt_zero _), Below.refl _ _⟩
        case round =>
          obtain ⟨wi, rfl⟩ : ∃ wi : World, wi = wr := ⟨_, rfl⟩
          obtain ⟨j, rfl, hjm, rfl, hal2, hbi⟩ := hrel
          have HAL2 := Lib.hid hal2
          have HBI := Lib.hid hbi
          have HBZ : Hid (Below w.heap.size w wi) := HBL.out.trans (hbi.mono hzr)
          have ci : wi.cell? ⟨b, off + k, none⟩ = some (.slice ad2 m c2) := (hbi.cell (p := ⟨b, off + k, none⟩) hbz).trans C0.out
          clear hal2 hbi c0
          by_cases hlt2 : j < m
          · have hr2 := HR2.out.below HBI.out
            have hix2 := fun W => hr2.ix 91 94 Tryz.underlying91 (by kernel_rfl) (by omega) hlt2 c2 W
            have d0 : wi.cell? ⟨b2, off2 + j * 4, none⟩ = some (f2 j 0) := hr2.cell j 0 hlt2 (by omega)
            have d1 : wi.cell? ⟨b2, off2 + j * 4 + 1, none⟩ = some (f2 j 1) := hr2.cell j 1 hlt2 (by omega)
            have d2 : wi.cell? ⟨b2, off2 + j * 4 + 2, none⟩ = some (f2 j 2) := hr2.cell j 2 hlt2 (by omega)
            have d3 : wi.cell? ⟨b2, off2 + j * 4 + 3, none⟩ = some (f2 j 3) := hr2.cell j 3 hlt2 (by omega)
            have hj0 : j < ls.length := by rw [HM.out]; exact hlt2
            have hre := (RowsOf.get HF2.out hj0 ⟨0, 0, false, []⟩).below HBI.out
            have HP := Lib.hid (rproper_any (f2 j) _ wi hre)
            have HNO2 : Hid (properV (ls.getD j ⟨0, 0, false, []⟩) = false → q = false) := fun h => HNO.out (all_not _ hj0 h)
            have HYES2 : Hid (properV (ls.getD j ⟨0, 0, false, []⟩) = true → ∀ i, i < j + 1 → properV (ls.getD i ⟨0, 0, false, []⟩) = true) := fun h i hi => by
              by_cases e : i = j
              · subst e; exact h
              · exact HAL2.out i (by omega)
            clear hre hr2 hj0
            generalize properV (ls.getD j ⟨0, 0, false, []⟩) = pv at *
            generalize f2 j 0 = y0 at *
            generalize f2 j 1 = y1 at *
            generalize f2 j 2 = y2 at *
            generalize f2 j 3 = y3 at *
            cases pv with
            | false =>
              have HO := Lib.hid (HNO2.out rfl)
              clear HNO2 HYES2
              go_wp2_with fail
              refine HP.out.mono ?_
              rintro e w' ⟨rfl, hb⟩
              have HB3 := Lib.hid (HBZ.out.trans (hb.mono HBZ.out.size))
              clear hb
              go_wp2_with fail
              go_ret
              exact ⟨by rw [HO.out]; rfl, HB3.out⟩
            | true =>
              have HO := Lib.hid (HYES2.out rfl)
              clear HNO2 HYES2
              have hsz := HBI.out.size
              go_wp2_with fail
              refine HP.out.mono ?_
              rintro e w' ⟨rfl, hb⟩
              have HB3 := Lib.hid (HBI.out.trans (hb.mono hsz))
              clear hb
              go_wp2_with fail
              go_roundw
              case rel => exact ⟨j + 1, by go_num, by omega, by go_num, HO.out, HB3.out⟩
              case measure => simp [intOf]; omega
          · obtain rfl : j = m := by omega
            have HO := Lib.hid (HYES.out (all_getD ⟨0, 0, false, []⟩ (by rw [HM.out]; exact HAL2.out)))
            clear HNO HYES
            go_wp2_with fail
            go_roundw
            case rel => exact ⟨k + 1, by go_num, by omega, by rw [HEQ.out], HO.out, HBZ.out⟩
            case measure => simp [intOf]; omega
    · obtain rfl : k = n := by omega
      have HE : Hid (q = (decide (0 < k) && decide (relN l ≤ 6))) := HQ.out.symm.trans (by rw [← HN.out]; exact validC_end (by rw [HN.out]; exact HAL.out))
      have HT : Hid (relN (l.take k) = relN l) := by unfold Hid; rw [← HN.out, List.take_length]
      rw [HT.out]
      generalize relN l = s at *
      by_cases p1 : 0 < k
      · have p2 : 0 < (k : Int) := by omega
        go_wp2_with fail
        go_ret
        exact ⟨by rw [HE.out, decide_eq_true p1]; simp; omega, HBL.out⟩
      · have p2 : ¬ 0 < (k : Int) := by omega
        go_wp2_with fail
        go_ret
        exact ⟨by rw [HE.out, decide_eq_false p1]; rfl, HBL.out⟩
theorem joinK (l : List (List UInt8)) (sep : List UInt8) (k : Nat) (h : k < l.length) : Lib.join (l.take (k + 1)) sep = Lib.join (l.take k) sep ++ (if k = 0 then [] else sep) ++ l[k] := by
  rw [List.take_succ_eq_append_getElem h]
  by_cases e : k = 0
  · subst e
    simp [Lib.join_one, Lib.join_nil]
  · rw [if_neg e, join_snocL _ _ _ (by
      intro g
      have := congrArg List.length g
      rw [List.length_take, List.length_nil] at this
      omega)]
def orP (cs : List (List Rel)) (k : Nat) : List UInt8 := Lib.join ((cs.map andT).take k) [32, 111, 114, 32]
def andP (ls : List Rel) (j : Nat) : List UInt8 := Lib.join ((ls.map relT).take j) [32, 97, 110, 100, 32]
theorem orP_le {cs : List (List Rel)} (h : CondF cs) (k : Nat) : (orP cs k).length ≤ 13000 := by
  have h2 := join_le ((cs.map andT).take k) [32, 111, 114, 32] 2000 (fun x hx => by
    obtain ⟨s, hs, rfl⟩ := List.mem_map.1 (List.mem_of_mem_take hx)
    exact andT_le (h.each s hs).2.1 (h.each s hs).2.2)
  rw [List.length_take, List.length_map] at h2
  have h3 := Nat.mul_le_mul_right (2000 + 4) (Nat.le_trans (Nat.min_le_right k cs.length) h.len)
  unfold orP
  simp only [List.length_cons, List.length_nil] at h2
  omega
theorem andP_le {ls : List Rel} (h1 : ls.length ≤ 6) (h : ∀ r ∈ ls, RelF r) (j : Nat) : (andP ls j).length ≤ 2000 := by
  have h2 := join_le ((ls.map relT).take j) [32, 97, 110, 100, 32] 300 (fun x hx => by
    obtain ⟨s, hs, rfl⟩ := List.mem_map.1 (List.mem_of_mem_take hx)
    exact relT_le (h s hs))
  rw [List.length_take, List.length_map] at h2
  have h3 := Nat.mul_le_mul_right (300 + 5) (Nat.le_trans (Nat.min_le_right j ls.length) h1)
  unfold andP
  simp only [List.length_cons, List.length_nil] at h2
  omega
theorem orP_succ (cs : List (List Rel)) (k : Nat) (h : k < cs.length) : orP cs (k + 1) = orP cs k ++ (if k = 0 then [] else [32, 111, 114, 32]) ++ andT cs[k] := by
  have := joinK (cs.map andT) [32, 111, 114, 32] k (by rw [List.length_map]; exact h)
  rwa [List.getElem_map] at this
theorem andP_succ (ls : List Rel) (j : Nat) (h : j < ls.length) : andP ls (j + 1) = andP ls j ++ (if j = 0 then [] else [32, 97, 110, 100, 32]) ++ relT ls[j] := by
  have := joinK (ls.map relT) [32, 97, 110, 100, 32] j (by rw [List.length_map]; exact h)
  rwa [List.getElem_map] at this
theorem orP_all (cs : List (List Rel)) : orP cs cs.length = condT cs := by
  unfold orP condT
  rw [List.take_of_length_le (by rw [List.length_map]; exact Nat.le_refl _)]
theorem andP_all (ls : List Rel) : andP ls ls.length = andT ls := by
  unfold andP andT
  rw [List.take_of_length_le (by rw [List.length_map]; exact Nat.le_refl _)]
set_option maxRecDepth 20000 in
set_option maxHeartbeats 8000000 in
theorem rcprint_any (v : Value) (cs : List (List Rel)) (w : World) (h : CondAt w v cs) (hl : cs.length ≤ 30) : Calls Tryz.prog 18 #[v] w fun e w' => e = .returned (.tuple #[.string (bs (condP cs).1), .int .i64 ((condP cs).2 : Nat)]) ∧ Below w.heap.size w w' := by
  have HV := Lib.hid (rcvalid_any v cs w h hl)
  obtain ⟨ad, c, f, b, off, rfl, hr, _, _, _, hf⟩ := h.opn
  obtain ⟨n, hnn⟩ : ∃ n, cs.length = n := ⟨_, rfl⟩
  rw [hnn] at hr hl HV ⊢
  cases hv : validC cs with
  | false =>
    have HO : Hid (condP cs = ([], 1)) := by unfold Hid condP; rw [hv]; rfl
    rw [Hid, hv] at HV
    replace HV := Lib.hid HV
    rw [HO.out]
    simp only
    clear hr hf h hnn
    go_enter Tryz.func18, Tryz.ntmps18
    go_wp2_with fail
    refine HV.out.mono ?_
    rintro e w2 ⟨rfl, hb⟩
    have HB := Lib.hid hb
    clear hb
    go_wp2_with fail
    go_ret2
    exact ⟨rfl, HB.out⟩
  | true =>
    have HO : Hid (condP cs = (condT cs, 0)) := by unfold Hid condP; rw [hv]; rfl
    have hcf := condF_of hv
    rw [Hid, hv] at HV
    replace HV := Lib.hid HV
    rw [HO.out]
    simp only
    have HLN := Lib.hid hnn
    have HR := Lib.hid hr
    have HF := Lib.hid hf
    have HCF := Lib.hid hcf
    have HEND : Hid (orP cs n = condT cs) := by rw [Hid, ← hnn]; exact orP_all cs
    clear h hr hf hnn hcf HO
    generalize condT cs = CT at *
    go_enter Tryz.func18, Tryz.ntmps18
    go_wp2_with fail
    refine HV.out.mono ?_
    rintro e w2 ⟨rfl, hb⟩
    have HB := Lib.hid hb
    have hzb := hb.size
    clear hb HV
    go_wp2_with fail
    go_loopw [4, 5] (fun u i wr => ∃ k : Nat, i = .int .i64 (k : Int) ∧ k ≤ n ∧ u = .string (bs (orP cs k)) ∧ Below w.heap.size w wr) (fun _ i _ => n - (intOf i).toNat)
    case atStart => exact ⟨0, rfl, Nat.zero_le _, rfl, HB.out⟩
    case round =>
      obtain ⟨k, rfl, hkn, rfl, hbl⟩ := hrel
      have HBL := Lib.hid hbl
      have hzr := hbl.size
      clear hbl
      by_cases hlt : k < n
      · have hrr := HR.out.below HBL.out
        have hkl : k < cs.length := by rw [HLN.out]; exact hlt
        have hrow : RowsOf 4 RelC w (f k 0) cs[k] := HF.out k hkl
        obtain ⟨ad2, c2, f2, b2, off2, hv2, hr2, _, _, _, hf2⟩ := hrow.opn
        have HIX : Hid (∀ W V, Below w.heap.size w W → (Instr.indexAt 48 (.slice ad n c) (.int .i64 (k : Int))).run Tryz.prog V = .ok (.pointer (some ⟨b, off + k, none⟩)) V ∧ W.cell? ⟨b, off + k, none⟩ = some (.slice ad2 cs[k].length c2)) := fun W V g => by
          have h1 := HR.out.below g
          have h2 := h1.ix (P := Tryz.prog) 48 91 Tryz.underlying48 (by kernel_rfl) (by omega) hlt c V
          rw [Nat.mul_one] at h2
          have h3 := h1.cell k 0 hlt (by omega)
          rw [Nat.mul_one, Nat.add_zero, hv2] at h3
          exact ⟨h2, h3⟩
        obtain ⟨hne, hl6, hrf⟩ := HCF.out.each cs[k] (List.getElem_mem hkl)
        have HRF := Lib.hid hrf
        have HAZ := Lib.hid (fun j => andP_le hl6 hrf j)
        have hoz := orP_le HCF.out k
        have HSU := Lib.hid (orP_succ cs k hkl)
        have HAA := Lib.hid (andP_all cs[k])
        have HR2 := Lib.hid hr2
        have HF2 := Lib.hid hf2
        rw [Hid, ← HAA.out] at HSU
        replace HSU := Lib.hid HSU
        clear hrr hrow hv2 hr2 hf2 hne hrf HAA
        generalize cs[k] = ls at *
        obtain ⟨m, hmm⟩ : ∃ m, ls.length = m := ⟨_, rfl⟩
        rw [hmm] at hl6
        rw [Hid, hmm] at HR2 HIX HSU
        replace HR2 := Lib.hid HR2
        replace HIX := Lib.hid HIX
        replace HSU := Lib.hid HSU
        have HLM := Lib.hid hmm
        clear hmm
        generalize orP cs k = OK at *
        by_cases hk0 : k = 0
        · rw [Hid, if_pos hk0, List.append_nil] at HSU
          replace HSU := Lib.hid HSU
          have n1 : ¬ (0 : Int) < (k : Int) := by omega
          have n2 : decide ((0 : Int) < (k : Int)) = false := decide_eq_false n1
          have n3 : ¬ 0 < k := by omega
          have n4 : decide (0 < k) = false := decide_eq_false n3
          have hsz : OK.length ≤ 13100 := by omega
          clear hk0 hoz
          go_wp2_with fail
          rename World => wo
          go_loopw [4, 6] (fun u i wi => ∃ j : Nat, i = .int .i64 (j : Int) ∧ j ≤ m ∧ u = .string (bs (OK ++ andP ls j)) ∧ Below w.heap.size w wi) (fun _ i _ => m - (intOf i).toNat)
          case atStart => exact ⟨0, rfl, Nat.zero_le _, by rw [show andP ls 0 = [] from rfl, List.append_nil], HBL.out⟩
          case round =>
            obtain ⟨j, rfl, hjm, rfl, hbi⟩ := hrel
            have HBI := Lib.hid hbi
            have hzi := hbi.size
            clear hbi
            have hixk := fun V => (HIX.out wr V HBI.out).1
            have hck := (HIX.out wr wr HBI.out).2
            by_cases hlj : j < m
            · have hrr := HR2.out.below HBI.out
              have hix := fun W => hrr.ix 91 94 Tryz.underlying91 (by kernel_rfl) (by omega) hlj c2 W
              have r0 := hrr.cell j 0 hlj (by omega)
              have r1 := hrr.cell j 1 hlj (by omega)
              have r2 := hrr.cell j 2 hlj (by omega)
              have r3 := hrr.cell j 3 hlj (by omega)
              have hjl : j < ls.length := by rw [HLM.out]; exact hlj
              have hrc := HF2.out j hjl
              have hrc2 := hrc
              obtain ⟨e0, e1, e2, e3⟩ := hrc2
              obtain ⟨ad4, c4, hv4⟩ := RowsOf.shape e3
              rw [e0, Nat.add_zero] at r0
              rw [e1] at r1
              rw [e2] at r2
              rw [hv4] at r3
              have HTS := Lib.hid (andP_succ ls j hjl)
              have HEC : Hid (∀ W, Below w.heap.size w W → Calls Tryz.prog 40 #[.agg #[.int .i64 ls[j].op, .int .i64 ls[j].md, .bool ls[j].neg, .slice ad4 ls[j].sp.length c4]] W fun e w' => e = .returned (.string (bs (relT ls[j]))) ∧ Below W.heap.size W w') := fun W g => by
                have := rrel_any (f2 j) ls[j] W (hrc.below g) (HRF.out _ (List.getElem_mem hjl))
                rwa [e0, e1, e2, hv4] at this
              have zr : (bs (relT ls[j])).size ≤ 300 := by rw [bs_size]; exact relT_le (HRF.out _ (List.getElem_mem hjl))
              have zs : (bs (OK ++ andP ls j)).size ≤ 16000 := by rw [bs_size, List.length_append]; have := HAZ.out j; omega
              clear hrr hrc e0 e1 e2 e3 hv4
              generalize relT ls[j] = q2 at *
              generalize ls[j].op = o1 at *
              generalize ls[j].md = o2 at *
              generalize ls[j].neg = o3 at *
              generalize ls[j].sp.length = o4 at *
              generalize andP ls j = AJ at *
              obtain ⟨X, hX⟩ : ∃ X, OK ++ AJ = X := ⟨_, rfl⟩
              have HXX := Lib.hid hX
              rw [hX]
              rw [hX] at zs
              clear hX
              by_cases hj0 : j = 0
              · rw [Hid, if_pos hj0, List.append_nil] at HTS
                replace HTS := Lib.hid HTS
                have m1 : ¬ (0 : Int) < (j : Int) := by omega
                have m2 : decide ((0 : Int) < (j : Int)) = false := decide_eq_false m1
                have m3 : ¬ 0 < j := by omega
                have m4 : decide (0 < j) = false := decide_eq_false m3
                have b1 := fun w => run_string_add_sum (P := Tryz.prog) (w := w) (bs X) (bs q2) (by omega)
                rw [bs_append] at b1
                obtain ⟨Y, hY⟩ : ∃ Y, X ++ q2 = Y := ⟨_, rfl⟩
                rw [hY] at b1
                have HYY := Lib.hid hY
                clear hY hj0
                go_wp2_with fail
                refine (HEC.out _ HBI.out).mono ?_
                rintro e w5 ⟨rfl, hb5⟩
                have HBV := Lib.hid (HBI.out.trans (hb5.mono hzi))
                clear hb5
                go_wp2_with fail
                go_roundw
                case rel => exact ⟨j + 1, by go_num, by omega, by rw [HTS.out, ← HYY.out, ← HXX.out]; simp only [List.append_assoc], HBV.out⟩
                case measure => simp [intOf]; omega
              · rw [Hid, if_neg hj0] at HTS
                replace HTS := Lib.hid HTS
                have m1 : (0 : Int) < (j : Int) := by omega
                have m2 : decide ((0 : Int) < (j : Int)) = true := decide_eq_true m1
                have m3 : 0 < j := by omega
                have m4 : decide (0 < j) = true := decide_eq_true m3
                have za : (⟨#[32, 97, 110, 100, 32]⟩ : ByteArray).size = 5 := rfl
                have b2 := fun w => run_string_add_sum (P := Tryz.prog) (w := w) (bs X) ⟨#[32, 97, 110, 100, 32]⟩ (by omega)
                rw [show (⟨#[32, 97, 110, 100, 32]⟩ : ByteArray) = bs [32, 97, 110, 100, 32] from rfl, bs_append] at b2
                obtain ⟨Z, hZ⟩ : ∃ Z, X ++ [32, 97, 110, 100, 32] = Z := ⟨_, rfl⟩
                rw [hZ] at b2
                replace b2 : ∀ w, (Op.stringOp BinOp.add (bs X) ⟨#[32, 97, 110, 100, 32]⟩).run Tryz.prog w = .ok (.string (bs Z)) w := b2
                have zz : (bs Z).size ≤ 16100 := by rw [bs_size] at zs ⊢; rw [← hZ, List.length_append]; simp only [List.length_cons, List.length_nil]; omega
                have HZZ := Lib.hid hZ
                have b1 := fun w => run_string_add_sum (P := Tryz.prog) (w := w) (bs Z) (bs q2) (by omega)
                rw [bs_append] at b1
                obtain ⟨Y, hY⟩ : ∃ Y, Z ++ q2 = Y := ⟨_, rfl⟩
                rw [hY] at b1
                have HYY := Lib.hid hY
                clear hY hZ hj0 za
                go_wp2_with fail
                refine (HEC.out _ HBI.out).mono ?_
                rintro e w5 ⟨rfl, hb5⟩
                have HBV := Lib.hid (HBI.out.trans (hb5.mono hzi))
                clear hb5
                go_wp2_with fail
                go_roundw
                case rel => exact ⟨j + 1, by go_num, by omega, by rw [HTS.out, ← HYY.out, ← HZZ.out, ← HXX.out]; simp only [List.append_assoc], HBV.out⟩
                case measure => simp [intOf]; omega
            · obtain rfl : j = m := by omega
              obtain ⟨X, hX⟩ : ∃ X, OK ++ andP ls j = X := ⟨_, rfl⟩
              have HXX := Lib.hid hX
              rw [hX]
              clear hX
              go_wp2_with fail
              go_roundw
              case rel => exact ⟨k + 1, by go_num, by omega, by rw [HSU.out, HXX.out], HBI.out⟩
              case measure => simp [intOf]; omega
        · rw [Hid, if_neg hk0] at HSU
          replace HSU := Lib.hid HSU
          have n1 : (0 : Int) < (k : Int) := by omega
          have n2 : decide ((0 : Int) < (k : Int)) = true := decide_eq_true n1
          have n3 : 0 < k := by omega
          have n4 : decide (0 < k) = true := decide_eq_true n3
          have zo : (⟨#[32, 111, 114, 32]⟩ : ByteArray).size = 4 := rfl
          have zk : (bs OK).size ≤ 13000 := by rw [bs_size]; exact hoz
          have b0 := fun w => run_string_add_sum (P := Tryz.prog) (w := w) (bs OK) ⟨#[32, 111, 114, 32]⟩ (by omega)
          have hsz : (OK ++ [32, 111, 114, 32]).length ≤ 13100 := by rw [List.length_append]; simp only [List.length_cons, List.length_nil]; omega
          rw [show (⟨#[32, 111, 114, 32]⟩ : ByteArray) = bs [32, 111, 114, 32] from rfl, bs_append] at b0
          generalize OK ++ [32, 111, 114, 32] = S0 at *
          replace b0 : ∀ w, (Op.stringOp BinOp.add (bs OK) ⟨#[32, 111, 114, 32]⟩).run Tryz.prog w = .ok (.string (bs S0)) w := b0
          clear zo zk
          clear hk0 hoz
          go_wp2_with fail
          rename World => wo
          go_loopw [4, 6] (fun u i wi => ∃ j : Nat, i = .int .i64 (j : Int) ∧ j ≤ m ∧ u = .string (bs (S0 ++ andP ls j)) ∧ Below w.heap.size w wi) (fun _ i _ => m - (intOf i).toNat)
          case atStart => exact ⟨0, rfl, Nat.zero_le _, by rw [show andP ls 0 = [] from rfl, List.append_nil], HBL.out⟩
          case round =>
            obtain ⟨j, rfl, hjm, rfl, hbi⟩ := hrel
            have HBI := Lib.hid hbi
            have hzi := hbi.size
            clear hbi
            have hixk := fun V => (HIX.out wr V HBI.out).1
            have hck := (HIX.out wr wr HBI.out).2
            by_cases hlj : j < m
            · have hrr := HR2.out.below HBI.out
              have hix := fun W => hrr.ix 91 94 Tryz.underlying91 (by kernel_rfl) (by omega) hlj c2 W
              have r0 := hrr.cell j 0 hlj (by omega)
              have r1 := hrr.cell j 1 hlj (by omega)
              have r2 := hrr.cell j 2 hlj (by omega)
              have r3 := hrr.cell j 3 hlj (by omega)
              have hjl : j < ls.length := by rw [HLM.out]; exact hlj
              have hrc := HF2.out j hjl
              have hrc2 := hrc
              obtain ⟨e0, e1, e2, e3⟩ := hrc2
              obtain ⟨ad4, c4, hv4⟩ := RowsOf.shape e3
              rw [e0, Nat.add_zero] at r0
              rw [e1] at r1
              rw [e2] at r2
              rw [hv4] at r3
              have HTS := Lib.hid (andP_succ ls j hjl)
              have HEC : Hid (∀ W, Below w.heap.size w W → Calls Tryz.prog 40 #[.agg #[.int .i64 ls[j].op, .int .i64 ls[j].md, .bool ls[j].neg, .slice ad4 ls[j].sp.length c4]] W fun e w' => e = .returned (.string (bs (relT ls[j]))) ∧ Below W.heap.size W w') := fun W g => by
                have := rrel_any (f2 j) ls[j] W (hrc.below g) (HRF.out _ (List.getElem_mem hjl))
                rwa [e0, e1, e2, hv4] at this
              have zr : (bs (relT ls[j])).size ≤ 300 := by rw [bs_size]; exact relT_le (HRF.out _ (List.getElem_mem hjl))
              have zs : (bs (S0 ++ andP ls j)).size ≤ 16000 := by rw [bs_size, List.length_append]; have := HAZ.out j; omega
              clear hrr hrc e0 e1 e2 e3 hv4
              generalize relT ls[j] = q2 at *
              generalize ls[j].op = o1 at *
              generalize ls[j].md = o2 at *
              generalize ls[j].neg = o3 at *
              generalize ls[j].sp.length = o4 at *
              generalize andP ls j = AJ at *
              obtain ⟨X, hX⟩ : ∃ X, S0 ++ AJ = X := ⟨_, rfl⟩
              have HXX := Lib.hid hX
              rw [hX]
              rw [hX] at zs
              clear hX
              by_cases hj0 : j = 0
              · rw [Hid, if_pos hj0, List.append_nil] at HTS
                replace HTS := Lib.hid HTS
                have m1 : ¬ (0 : Int) < (j : Int) := by omega
                have m2 : decide ((0 : Int) < (j : Int)) = false := decide_eq_false m1
                have m3 : ¬ 0 < j := by omega
                have m4 : decide (0 < j) = false := decide_eq_false m3
                have b1 := fun w => run_string_add_sum (P := Tryz.prog) (w := w) (bs X) (bs q2) (by omega)
                rw [bs_append] at b1
                obtain ⟨Y, hY⟩ : ∃ Y, X ++ q2 = Y := ⟨_, rfl⟩
                rw [hY] at b1
                have HYY := Lib.hid hY
                clear hY hj0
                go_wp2_with fail
                refine (HEC.out _ HBI.out).mono ?_
                rintro e w5 ⟨rfl, hb5⟩
                have HBV := Lib.hid (HBI.out.trans (hb5.mono hzi))
                clear hb5
                go_wp2_with fail
                go_roundw
                case rel => exact ⟨j + 1, by go_num, by omega, by rw [HTS.out, ← HYY.out, ← HXX.out]; simp only [List.append_assoc], HBV.out⟩
                case measure => simp [intOf]; omega
              · rw [Hid, if_neg hj0] at HTS
                replace HTS := Lib.hid HTS
                have m1 : (0 : Int) < (j : Int) := by omega
                have m2 : decide ((0 : Int) < (j : Int)) = true := decide_eq_true m1
                have m3 : 0 < j := by omega
                have m4 : decide (0 < j) = true := decide_eq_true m3
                have za : (⟨#[32, 97, 110, 100, 32]⟩ : ByteArray).size = 5 := rfl
                have b2 := fun w => run_string_add_sum (P := Tryz.prog) (w := w) (bs X) ⟨#[32, 97, 110, 100, 32]⟩ (by omega)
                rw [show (⟨#[32, 97, 110, 100, 32]⟩ : ByteArray) = bs [32, 97, 110, 100, 32] from rfl, bs_append] at b2
                obtain ⟨Z, hZ⟩ : ∃ Z, X ++ [32, 97, 110, 100, 32] = Z := ⟨_, rfl⟩
                rw [hZ] at b2
                replace b2 : ∀ w, (Op.stringOp BinOp.add (bs X) ⟨#[32, 97, 110, 100, 32]⟩).run Tryz.prog w = .ok (.string (bs Z)) w := b2
                have zz : (bs Z).size ≤ 16100 := by rw [bs_size] at zs ⊢; rw [← hZ, List.length_append]; simp only [List.length_cons, List.length_nil]; omega
                have HZZ := Lib.hid hZ
                have b1 := fun w => run_string_add_sum (P := Tryz.prog) (w := w) (bs Z) (bs q2) (by omega)
                rw [bs_append] at b1
                obtain ⟨Y, hY⟩ : ∃ Y, Z ++ q2 = Y := ⟨_, rfl⟩
                rw [hY] at b1
                have HYY := Lib.hid hY
                clear hY hZ hj0 za
                go_wp2_with fail
                refine (HEC.out _ HBI.out).mono ?_
                rintro e w5 ⟨rfl, hb5⟩
                have HBV := Lib.hid (HBI.out.trans (hb5.mono hzi))
                clear hb5
                go_wp2_with fail
                go_roundw
                case rel => exact ⟨j + 1, by go_num, by omega, by rw [HTS.out, ← HYY.out, ← HZZ.out, ← HXX.out]; simp only [List.append_assoc], HBV.out⟩
                case measure => simp [intOf]; omega
            · obtain rfl : j = m := by omega
              obtain ⟨X, hX⟩ : ∃ X, S0 ++ andP ls j = X := ⟨_, rfl⟩
              have HXX := Lib.hid hX
              rw [hX]
              clear hX
              go_wp2_with fail
              go_roundw
              case rel => exact ⟨k + 1, by go_num, by omega, by rw [HSU.out, HXX.out], HBI.out⟩
              case measure => simp [intOf]; omega
      · obtain rfl : k = n := by omega
        rw [HEND.out]
        go_wp2_with fail
        go_ret2
        exact ⟨rfl, HBL.out⟩
end Go.Proofs.YtmleeodfmmpdgaaGreatDoor
namespace Go.Proofs.YtmleeodfmmpdgaaGreatDoor
def condLc (s : ByteArray) (cs : List (List Rel)) : Lc := ⟨bs [120], .empty, .empty, [(s, cs)], [], .empty, .empty, .empty, .empty, 0, 0, [], [], [], [], []⟩
def condTb (s : ByteArray) (cs : List (List Rel)) : Tb := ⟨[condLc s cs], [], []⟩
theorem okX120 : okWs [bs [120]] = true := by decide +kernel
theorem okTab_cond (s : ByteArray) (cs : List (List Rel)) : okTab (condTb s cs) = (classL.contains s && validC cs) := by
  have h1 : okRules [(s, cs)] = okRule (s, cs) := by simp [okRules, uniqV]
  have h2 : okRules [] = true := by simp [okRules, uniqV]
  have h3 : okHead (condLc s cs) = true := by
    unfold okHead condLc
    simp only [okX120]
    decide
  have h4 : okNames (condLc s cs) = true := by simp [okNames, condLc, okXs]
  have h5 : okSym (condLc s cs) = true := by simp [okSym, symZ, condLc]
  have h6 : okPat (condLc s cs) = true := by simp [okPat, condLc, uniqV]
  have h7 : okLoc (condLc s cs) = okRule (s, cs) := by
    unfold okLoc
    rw [h3, h4, h5, h6, show (condLc s cs).card = [(s, cs)] from rfl, show (condLc s cs).ord = [] from rfl, h1, h2]
    simp
  have h8 : okTab (condTb s cs) = okLoc (condLc s cs) := by simp [okTab, condTb]
  rw [h8, h7]
  rfl
theorem tabT_cond (s : ByteArray) (cs : List (List Rel)) : tabT (condTb s cs) = [108, 111, 99, 97, 108, 101, 32, 120, 32, 123, 10, 9, 99, 97, 114, 100, 105, 110, 97, 108, 32] ++ s.data.toList ++ [32, 34] ++ escS (condT cs) ++ [34, 59, 10, 125, 10] := by
  have h1 : symZ (condLc s cs) = true := by simp [symZ, condLc]
  have h2 : rulesT [99, 97, 114, 100, 105, 110, 97, 108] [(s, cs)] = [9, 99, 97, 114, 100, 105, 110, 97, 108, 32] ++ s.data.toList ++ [32] ++ (34 :: (escS (condT cs) ++ [34])) ++ [59, 10] := by
    simp [rulesT, lineT, Lib.join, List.intercalate, qT]
    rfl
  have h3 : headT (condLc s cs) = [108, 111, 99, 97, 108, 101, 32, 120, 32, 123, 10] := by
    unfold headT condLc
    rw [if_pos rfl]
    rfl
  have h4 : bodyT (condLc s cs) = rulesT [99, 97, 114, 100, 105, 110, 97, 108] [(s, cs)] := by
    unfold bodyT
    rw [h1]
    simp [condLc, dirT, rulesT]
  have h5 : tabT (condTb s cs) = locT (condLc s cs) := by simp [tabT, condTb]
  rw [h5]
  unfold locT
  rw [h3, h4, h2]
  simp
def plainC (c : UInt8) : Bool := decide (escC c = [c])
theorem escS_plain : ∀ l : List UInt8, (∀ c ∈ l, plainC c = true) → escS l = l
  | [], _ => rfl
  | c :: l, h => by
    have h1 : escC c = [c] := of_decide_eq_true (h c (List.mem_cons_self ..))
    have h2 := escS_plain l fun d hd => h d (List.mem_cons_of_mem _ hd)
    have : escS (c :: l) = escC c ++ escS l := rfl
    rw [this, h1, h2]
    rfl
def plainL (l : List UInt8) : Prop := ∀ c ∈ l, plainC c = true
theorem plainL.app {a b : List UInt8} (ha : plainL a) (hb : plainL b) : plainL (a ++ b) := fun c hc => (List.mem_append.1 hc).elim (ha c) (hb c)
theorem plainL.join {l : List (List UInt8)} {sep : List UInt8} (h : ∀ x ∈ l, plainL x) (hs : plainL sep) : plainL (Lib.join l sep) := by
  induction l with
  | nil => intro c hc; rw [Lib.join_nil] at hc; cases hc
  | cons x r ih =>
    rw [Lib.join_cons]
    refine (h x (List.mem_cons_self ..)).app ?_
    have : ∀ r : List (List UInt8), (∀ x ∈ r, plainL x) → plainL (Lib.joinTail sep r) := by
      intro r hr
      induction r with
      | nil => intro c hc; simp [Lib.joinTail] at hc
      | cons y r ih2 =>
        have e : Lib.joinTail sep (y :: r) = sep ++ y ++ Lib.joinTail sep r := by simp [Lib.joinTail]
        rw [e]
        exact (hs.app (hr y (List.mem_cons_self ..))).app (ih2 fun x hx => hr x (List.mem_cons_of_mem _ hx))
    exact this r fun y hy => h y (List.mem_cons_of_mem _ hy)
theorem plainL.lit {l : List UInt8} (h : l.all plainC = true) : plainL l := fun c hc => List.all_eq_true.1 h c hc
theorem plain_digit {n : Nat} (h : n < 10) : plainC (UInt8.ofNat (48 + n)) = true := by
  have : ∀ n : Fin 10, plainC (UInt8.ofNat (48 + n.val)) = true := by decide +kernel
  exact this ⟨n, h⟩
theorem plain_dec (n : Nat) : plainL (Lib.decDigits n) := by
  induction n using Nat.strongRecOn with
  | ind n ih =>
    by_cases h : n < 10
    · rw [Lib.decDigits_one h]
      intro c hc
      rw [List.mem_singleton.1 hc]
      exact plain_digit h
    · rw [decDigits_big h]
      exact (ih (n / 10) (by omega)).app (ih (n % 10) (by omega))
theorem plain_itoa {z : Int} (h : 0 ≤ z) : plainL (Lib.itoa z) := by
  obtain ⟨n, rfl⟩ := Int.eq_ofNat_of_zero_le h
  rw [Lib.itoa_nonneg]
  exact plain_dec n
theorem plain_span {s : Int × Int} (h : 0 ≤ s.1 ∧ s.1 ≤ s.2 ∧ s.2 ≤ 100) : plainL (spanT s) := by
  unfold spanT
  split
  · exact plain_itoa h.1
  · exact ((plain_itoa h.1).app (plainL.lit (by decide +kernel))).app (plain_itoa (by omega))
theorem plain_rel {r : Rel} (h : RelF r) : plainL (relT r) := by
  unfold relT
  refine ((plainL.app ?_ ?_).app ?_).app (plainL.join (fun x hx => ?_) (plainL.lit (by decide +kernel)))
  · obtain ⟨op, md, neg, sp⟩ := r
    have hop := h.op
    simp only at hop ⊢
    obtain rfl | rfl | rfl | rfl | rfl | rfl : op = 1 ∨ op = 2 ∨ op = 3 ∨ op = 4 ∨ op = 5 ∨ op = 6 := by omega
    all_goals exact plainL.lit (by decide +kernel)
  · split
    · exact (plainL.lit (by decide +kernel)).app (plain_itoa h.md.1)
    · intro c hc; cases hc
  · split <;> exact plainL.lit (by decide +kernel)
  · obtain ⟨s, hs, rfl⟩ := List.mem_map.1 hx
    exact plain_span (h.sp s hs)
theorem escS_cond {cs : List (List Rel)} (h : CondF cs) : escS (condT cs) = condT cs := by
  refine escS_plain _ ?_
  refine plainL.join (fun x hx => ?_) (plainL.lit (by decide +kernel))
  obtain ⟨l, hl, rfl⟩ := List.mem_map.1 hx
  refine plainL.join (fun y hy => ?_) (plainL.lit (by decide +kernel))
  obtain ⟨r, hr, rfl⟩ := List.mem_map.1 hy
  exact plain_rel ((h.each l hl).2.2 r hr)
theorem printV_cond (s : ByteArray) (cs : List (List Rel)) (hs : s.size ≤ 100) : printV (condTb s cs) = if classL.contains s && validC cs then ([108, 111, 99, 97, 108, 101, 32, 120, 32, 123, 10, 9, 99, 97, 114, 100, 105, 110, 97, 108, 32] ++ s.data.toList ++ [32, 34] ++ condT cs ++ [34, 59, 10, 125, 10], 0) else ([], 1) := by
  have h0 : printV (condTb s cs) = if (classL.contains s && validC cs) then (if 200000 < (tabT (condTb s cs)).length then ([], 6) else (tabT (condTb s cs), 0)) else ([], 1) := by
    unfold printV
    rw [okTab_cond]
  rw [h0, tabT_cond]
  cases hv : classL.contains s && validC cs with
  | false => rw [if_neg (show ¬ (false = true) by simp), if_neg (show ¬ (false = true) by simp)]
  | true =>
    rw [Bool.and_eq_true] at hv
    have hcf := condF_of hv.2
    have hz := condT_le hcf
    rw [escS_cond hcf]
    generalize hT : [108, 111, 99, 97, 108, 101, 32, 120, 32, 123, 10, 9, 99, 97, 114, 100, 105, 110, 97, 108, 32] ++ s.data.toList ++ [32, 34] ++ condT cs ++ [34, 59, 10, 125, 10] = T
    have hz2 : T.length ≤ 200000 := by
      rw [← hT]
      simp only [List.length_append, List.length_cons, List.length_nil, sz_data]
      omega
    rw [if_pos rfl, if_pos rfl, if_neg (by omega)]
end Go.Proofs.YtmleeodfmmpdgaaGreatDoor
