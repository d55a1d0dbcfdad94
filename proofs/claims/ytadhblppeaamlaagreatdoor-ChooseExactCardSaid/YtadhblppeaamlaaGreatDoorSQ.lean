/- Walks over rules in the reference: the class of a number; whether rules are few. -/
import Derived.Test.YtadhblppeaamlaaGreatDoorSP
import Derived.Test.YtadhblppeaamlaaGreatDoorSN
namespace Go.Proofs.YtadhblppeaamlaaGreatDoor
open Go.RowKit
attribute [local go_sem] Ext.cell Ext.frozen
attribute [local go_sem ↓] Go.wp_at_zero Go.wp_at_succ

set_option maxRecDepth 20000 in
set_option maxHeartbeats 4000000 in
theorem rclassr_any (v : Value) (rs : List (ByteArray × List (List Rel))) (s : ByteArray) (w : World) (h : RulesAt w v rs) (hl : ∀ r ∈ rs, r.2.length ≤ 30) (hs : s.size ≤ 1000) :
    Calls Tryz.prog 43 #[v, .string s] w fun e w' => e = .returned (.tuple #[.string (classV rs s.data.toList).1, .int .i64 ((classV rs s.data.toList).2 : Nat)]) ∧ Below w.heap.size w w' := by
  have HV := Lib.hid (rvalidr_any v rs w h hl)
  have HD := Lib.hid (fun W => rvalid_any s W hs)
  cases hv : validR rs with
  | false =>
    have HO : Hid (classV rs s.data.toList = (.empty, 1)) := classV_no hv
    rw [Hid, hv] at HV
    replace HV := Lib.hid HV
    generalize classV rs s.data.toList = q at *
    clear h
    go_enter Tryz.func43, Tryz.ntmps43
    go_wp2_with fail
    refine (Calls.toExt HV.out).mono ?_
    rintro e _ ⟨rfl, x1, rfl⟩
    go_wp2_with fail
    go_ret2
    exact ⟨by rw [HO.out]; rfl, by show Bel w _; repeat (first | exact Bel.refl _ | refine Bel.drew ?_ | refine Bel.drewN ?_ _ | refine Bel.alloc ?_ _ | refine Bel.ext ?_ _)⟩
  | true =>
    have hvc := validR_all hv
    rw [Hid, hv] at HV
    replace HV := Lib.hid HV
    cases hd : dOk s.data.toList with
    | false =>
      have HO : Hid (classV rs s.data.toList = (.empty, 1)) := classV_no2 hd
      rw [Hid, hd] at HD
      replace HD := Lib.hid HD
      generalize classV rs s.data.toList = q at *
      clear h hvc
      go_enter Tryz.func43, Tryz.ntmps43
      go_wp2_with fail
      refine (Calls.toExt HV.out).mono ?_
      rintro e _ ⟨rfl, x1, rfl⟩
      go_wp2_with fail
      refine (Calls.toExt (HD.out _)).mono ?_
      rintro e _ ⟨rfl, x2, rfl⟩
      go_wp2_with fail
      go_ret2
      exact ⟨by rw [HO.out]; rfl, by show Bel w _; repeat (first | exact Bel.refl _ | refine Bel.drew ?_ | refine Bel.drewN ?_ _ | refine Bel.alloc ?_ _ | refine Bel.ext ?_ _)⟩
    | true =>
      have HO : Hid (classV rs s.data.toList = (classOf rs s.data.toList, 0)) := classV_yes hv hd
      rw [Hid, hd] at HD
      replace HD := Lib.hid HD
      rw [HO.out]
      simp only
      obtain ⟨ad, c, f, b, off, rfl, hr, _, _, _, hf⟩ := h
      obtain ⟨n, hn⟩ : ∃ n, rs.length = n := ⟨_, rfl⟩
      rw [hn] at hr HV ⊢
      have hnm := hr.max
      have HN := Lib.hid hn
      have HR := Lib.hid hr
      have HF := Lib.hid hf
      have HL := Lib.hid hl
      have HVC := Lib.hid hvc
      have HDD := Lib.hid hd
      clear hr hf hn hl hvc hd hv
      obtain ⟨q, hq⟩ : ∃ q, classOf rs s.data.toList = q := ⟨_, rfl⟩
      rw [hq]
      have HQ := Lib.hid hq
      clear hq HO
      go_enter Tryz.func43, Tryz.ntmps43
      go_wp2_with fail
      refine (Calls.toExt HV.out).mono ?_
      rintro e _ ⟨rfl, x1, rfl⟩
      go_wp2_with fail
      refine (Calls.toExt (HD.out _)).mono ?_
      rintro e _ ⟨rfl, x2, rfl⟩
      have HBX : Hid (Below w.heap.size w x2.1) := by show Bel w _; repeat (first | exact Bel.refl _ | refine Bel.drew ?_ | refine Bel.drewN ?_ _ | refine Bel.alloc ?_ _ | refine Bel.ext ?_ _)
      go_wp2_with fail
      go_loopw [6] (fun v wr => ∃ k : Nat, v = .int .i64 (k : Int) ∧ k ≤ n ∧ (∀ i, i < k → holdsC s.data.toList (rs.getD i (.empty, [])).2 = false) ∧ Below w.heap.size w wr) (fun v _ => n - (intOf v).toNat)
      case atStart => exact ⟨0, rfl, Nat.zero_le _, fun i hi => absurd hi (Nat.not_lt_zero _), HBX.out⟩
      case round =>
        obtain ⟨k, rfl, hkn, hal, hbl⟩ := hrel
        have HAL := Lib.hid hal
        have HBL := Lib.hid hbl
        have hzr := hbl.size
        clear hal hbl
        by_cases hlt : k < n
        · have hrr := HR.out.below HBL.out
          have hix := fun W => hrr.ix 22 80 Tryz.underlying22 (by kernel_rfl) (by omega) hlt c W
          have c0 : wr.cell? ⟨b, off + k * 2, none⟩ = some (f k 0) := hrr.cell k 0 hlt (by omega)
          have c1 : wr.cell? ⟨b, off + k * 2 + 1, none⟩ = some (f k 1) := hrr.cell k 1 hlt (by omega)
          have hk0 : k < rs.length := by rw [HN.out]; exact hlt
          obtain ⟨f0, f1⟩ := RowsOf.get HF.out hk0 (.empty, [])
          rw [f0] at c0
          have hm := getD_mem rs k (.empty, []) hk0
          have hbz : b < wr.heap.size := World.block_lt_of_cell? _ _ c0
          have HC : Hid (Calls Tryz.prog 67 #[f k 1, .string s] wr fun e w' => e = .returned (.tuple #[.bool (holdsC s.data.toList (rs.getD k (.empty, [])).2), .int .i64 0]) ∧ Below wr.heap.size wr w') := by
            have := rcholds_any (f k 1) _ s wr (f1.below HBL.out) (HL.out _ hm) hs
            rw [holdsV_ok (HVC.out _ hm) HDD.out] at this
            exact this
          obtain ⟨ad3, c3, _, _, _, hv3, _, _, _, _, _⟩ := id f1
          rw [hv3] at c1
          rw [Hid, hv3] at HC
          replace HC := Lib.hid HC
          have HHIT : Hid (holdsC s.data.toList (rs.getD k (.empty, [])).2 = true → q = (rs.getD k (.empty, [])).1) := fun h => HQ.out.symm.trans (classOf_hit hk0 h HAL.out)
          have HMISS : Hid (holdsC s.data.toList (rs.getD k (.empty, [])).2 = false → ∀ i, i < k + 1 → holdsC s.data.toList (rs.getD i (.empty, [])).2 = false) := fun h i hi => by
            by_cases e : i = k
            · subst e; exact h
            · exact HAL.out i (by omega)
          clear hrr f0 f1 hv3 hm hk0
          generalize (rs.getD k (.empty, [])).2.length = m3 at *
          generalize rs.getD k (.empty, []) = r at *
          obtain ⟨cl, cd⟩ := r
          simp only at c0 HC HHIT HMISS
          cases hh : holdsC s.data.toList cd with
          | true =>
            have HO := Lib.hid (HHIT.out hh)
            rw [Hid, hh] at HC
            replace HC := Lib.hid HC
            clear hh HHIT HMISS
            go_wp2_with fail
            refine (Calls.toExt HC.out).mono ?_
            rintro e _ ⟨rfl, x1, rfl⟩
            go_wp2_with fail
            go_ret2
            exact ⟨by rw [HO.out]; rfl, by show Bel w _; repeat (first | exact Bel.refl _ | exact HBL.out | refine Bel.drew ?_ | refine Bel.drewN ?_ _ | refine Bel.alloc ?_ _ | refine Bel.ext ?_ _)⟩
          | false =>
            have HO := Lib.hid (HMISS.out hh)
            rw [Hid, hh] at HC
            replace HC := Lib.hid HC
            clear hh HHIT HMISS
            go_wp2_with fail
            refine (Calls.toExt HC.out).mono ?_
            rintro e _ ⟨rfl, x1, rfl⟩
            go_wp2_with fail
            go_roundw
            case rel => exact ⟨k + 1, by go_num, by omega, HO.out, by show Bel w _; repeat (first | exact Bel.refl _ | exact HBL.out | refine Bel.drew ?_ | refine Bel.drewN ?_ _ | refine Bel.alloc ?_ _ | refine Bel.ext ?_ _)⟩
            case measure => simp [intOf]; omega
        · obtain rfl : k = n := by omega
          have HO : Hid (q = otherB) := HQ.out.symm.trans (classOf_miss (by rw [HN.out]; exact HAL.out))
          go_wp2_with fail
          go_ret2
          exact ⟨by rw [HO.out]; rfl, HBL.out⟩
/-- each condition has at most 30 lists -/
def FewC (rs : List (ByteArray × List (List Rel))) : Prop := ∀ r ∈ rs, r.2.length ≤ 30
set_option maxRecDepth 20000 in
theorem rfewr_any (v : Value) (rs : List (ByteArray × List (List Rel))) (w : World) (h : RulesAt w v rs) : Calls Tryz.prog 40 #[v] w (BoolIf w (FewC rs)) := by
  obtain ⟨ad, c, f, b, off, rfl, hr, _, _, _, hf⟩ := h
  obtain ⟨n, hn⟩ : ∃ n, rs.length = n := ⟨_, rfl⟩
  rw [hn] at hr ⊢
  have hnm := hr.max
  have HN := Lib.hid hn
  have HR := Lib.hid hr
  have HF := Lib.hid hf
  clear hr hf hn
  go_enter Tryz.func40, Tryz.ntmps40
  go_wp2_with fail
  go_loop [3] (fun v => ∃ k : Nat, v = .int .i64 (k : Int) ∧ k ≤ n ∧ (∀ i, i < k → (rs.getD i (.empty, [])).2.length ≤ 30)) (fun v => n - (intOf v).toNat)
  case atStart => exact ⟨0, rfl, Nat.zero_le _, fun i hi => absurd hi (Nat.not_lt_zero _)⟩
  case round =>
    obtain ⟨k, rfl, hkn, hal⟩ := hrel
    have HAL := Lib.hid hal
    clear hal
    by_cases hlt : k < n
    · have hix := fun W => HR.out.ix 22 80 Tryz.underlying22 (by kernel_rfl) (by omega) hlt c W
      have c1 : w.cell? ⟨b, off + k * 2 + 1, none⟩ = some (f k 1) := HR.out.cell k 1 hlt (by omega)
      have hk0 : k < rs.length := by rw [HN.out]; exact hlt
      obtain ⟨f0, f1⟩ := RowsOf.get HF.out hk0 (.empty, [])
      have HC := Lib.hid (cfewl_any (f k 1) _ w f1)
      obtain ⟨ad3, c3, _, _, _, hv3, _, _, _, _, _⟩ := id f1
      rw [hv3] at c1
      rw [Hid, hv3] at HC
      replace HC := Lib.hid HC
      have HYES : Hid ((rs.getD k (.empty, [])).2.length ≤ 30 → ∀ i, i < k + 1 → (rs.getD i (.empty, [])).2.length ≤ 30) := fun h i hi => by
        by_cases e : i = k
        · subst e; exact h
        · exact HAL.out i (by omega)
      clear f0 f1 hv3 hk0
      generalize (rs.getD k (.empty, [])).2.length = m3 at *
      go_wp2_with fail
      refine HC.out.mono ?_
      rintro e w' ⟨q, rfl, rfl, hq⟩
      cases q with
      | false =>
        go_wp2_with fail
        go_ret
        exact ⟨false, rfl, rfl, fun h => by cases h⟩
      | true =>
        have HO := Lib.hid (HYES.out (hq rfl))
        clear hq HYES
        go_wp2_with fail
        go_round
        case rel => exact ⟨k + 1, by go_num, by omega, HO.out⟩
        case measure => simp [intOf]; omega
    · obtain rfl : k = n := by omega
      go_wp2_with fail
      go_ret
      exact ⟨_, rfl, rfl, fun _ r hr => by
        obtain ⟨i, hi, rfl⟩ := List.getElem_of_mem hr
        have := HAL.out i (by rw [← HN.out]; exact hi)
        simpa [List.getD, List.getElem?_eq_getElem hi] using this⟩
/-- few rules of a locale -/
def BoolIfB (w : World) (P : Prop) (e : Ending) (w' : World) : Prop := ∃ q : Bool, e = .returned (.bool q) ∧ Below w.heap.size w w' ∧ (q = true → P)
theorem fewrules_any (x : Nat → Value) (a b : List (ByteArray × List (List Rel))) (w : World) (h : LocC w x a b) : Calls Tryz.prog 18 #[.agg #[x 0, x 1, x 2, x 3, x 4, x 5, x 6, x 7, x 8, x 9, x 10, x 11, x 12, x 13, x 14, x 15]] w (BoolIfB w (FewC a ∧ FewC b)) := by
  obtain ⟨ha, hb⟩ := h
  have HA : Hid (∀ W, Below w.heap.size w W → Calls Tryz.prog 40 #[x 3] W (BoolIf W (FewC a))) := fun W g => rfewr_any (x 3) a W (ha.below g)
  have HB : Hid (∀ W, Below w.heap.size w W → Calls Tryz.prog 40 #[x 4] W (BoolIf W (FewC b))) := fun W g => rfewr_any (x 4) b W (hb.below g)
  obtain ⟨ad3, c3, _, _, _, hv3, _, _, _, _, _⟩ := ha
  obtain ⟨ad4, c4, _, _, _, hv4, _, _, _, _, _⟩ := hb
  rw [Hid, hv3] at HA
  rw [Hid, hv4] at HB
  replace HA := Lib.hid HA
  replace HB := Lib.hid HB
  rw [hv3, hv4]
  clear hv3 hv4
  generalize a.length = n3 at *
  generalize b.length = n4 at *
  generalize x 0 = x0 at *
  generalize x 1 = x1 at *
  generalize x 2 = x2 at *
  generalize x 5 = x5 at *
  generalize x 6 = x6 at *
  generalize x 7 = x7 at *
  generalize x 8 = x8 at *
  generalize x 9 = x9 at *
  generalize x 10 = x10 at *
  generalize x 11 = x11 at *
  generalize x 12 = x12 at *
  generalize x 13 = x13 at *
  generalize x 14 = x14 at *
  generalize x 15 = x15 at *
  go_enter Tryz.func18, Tryz.ntmps18
  go_wp2_with fail
  refine (HA.out _ ((Below.refl _ _).alloc (Nat.le_refl _) _)).mono ?_
  rintro e _ ⟨q, rfl, rfl, hq⟩
  cases q with
  | false =>
    go_wp2_with fail
    go_ret
    exact ⟨false, rfl, (Below.refl _ _).alloc (Nat.le_refl _) _, fun h => by cases h⟩
  | true =>
    have HQ := Lib.hid (hq rfl)
    clear hq
    go_wp2_with fail
    refine (HB.out _ ((Below.refl _ _).alloc (Nat.le_refl _) _)).mono ?_
    rintro e _ ⟨q, rfl, rfl, hq⟩
    have HQ2 := Lib.hid hq
    clear hq
    go_wp2_with fail
    go_ret
    exact ⟨q, rfl, (Below.refl _ _).alloc (Nat.le_refl _) _, fun h => ⟨HQ.out, HQ2.out h⟩⟩
end Go.Proofs.YtadhblppeaamlaaGreatDoor
