/- Walks: Parse, by the reference. -/
import Derived.Test.YtaolbfbnjbpljaaGreatDoorC2
import Derived.Test.YtaolbfbnjbpljaaGreatDoorE5
import Derived.Test.YtaolbfbnjbpljaaGreatDoorV2
import Derived.Test.YtaolbfbnjbpljaaGreatDoorR
import Derived.IntWalk
namespace Go.Proofs.YtaolbfbnjbpljaaGreatDoor
open Go.RowKit
attribute [local go_sem] Ext.cell Ext.frozen
attribute [local go_sem ↓] Go.wp_at_zero Go.wp_at_succ

theorem rparse_len (s : ByteArray) (w : World) (_hs : s.size ≤ 1000) (h : ¬ s.size = 10) : Calls Tryz.prog 19 #[.string s] w fun e w' => e = .returned (.tuple #[.int .i64 0, .int .i64 3]) ∧ Below w.heap.size w w' := by
  have h1 : ¬ (s.size : Int) = 10 := by omega
  have h2 : ((s.size : Int) == 10) = false := by simpa using h1
  go_enter Tryz.func19, Tryz.ntmps19
  go_wp2_with fail
  go_ret2
  exact ⟨rfl, Below.refl _ _⟩
/-- what holds behind i characters -/
def PRel (w : World) (l : List UInt8) (i : Nat) (k : Int) (wr : World) : Prop :=
  (∀ j, j < i → okC l j = true) ∧ k = (if 4 < i then (if 7 < i then 2 else 1) else 0) ∧ wr.cell? ⟨w.heap.size, 0, none⟩ = some (.int .i64 (accA l i : Nat)) ∧ wr.cell? ⟨w.heap.size, 1, none⟩ = some (.int .i64 (accB l i : Nat)) ∧
    wr.cell? ⟨w.heap.size, 2, none⟩ = some (.int .i64 (accC l i : Nat)) ∧ (∀ o, wr.frozen? ⟨w.heap.size, o, none⟩ = false) ∧ Below w.heap.size w wr
theorem okC_step {l : List UInt8} {i : Nat} (h : ∀ j, j < i → okC l j = true) (hi : okC l i = true) : ∀ j, j < i + 1 → okC l j = true := fun j hj => by
  rcases Nat.lt_or_ge j i with h2 | h2
  · exact h j h2
  · rw [show j = i by omega]; exact hi
theorem baC_getD (s : ByteArray) (k : Nat) (h : k < s.size) : s[k] = s.data.toList.getD k 0 := by
  rw [List.getD_eq_getElem?_getD, List.getElem?_eq_getElem (by rw [size_len]; exact h)]; rfl
theorem u8_dash {c : UInt8} (h : ¬ c = 45) : ((c.toNat : Int) == 45) = false := by
  simp only [beq_eq_false_iff_ne, ne_eq]
  exact fun e => h (UInt8.toNat.inj (by have : (c.toNat : Int) = ((45 : UInt8).toNat : Int) := e; omega))

set_option maxRecDepth 20000 in
set_option maxHeartbeats 8000000 in
theorem rparse_ten (s : ByteArray) (w : World) (h : s.size = 10) : Calls Tryz.prog 19 #[.string s] w fun e w' => e = .returned (.tuple #[.int .i64 (parseV s.data.toList).1, .int .i64 ((parseV s.data.toList).2 : Nat)]) ∧ Below w.heap.size w w' := by
  have hl : s.data.toList.length = 10 := by rw [size_len]; exact h
  have h10 : (s.size : Int) = 10 := by omega
  have HS := Lib.hid h
  have HL := Lib.hid hl
  have HOF := Lib.hid (fun y m d w => rof_any y m d w)
  clear hl
  go_enter Tryz.func19, Tryz.ntmps19
  go_wp2_with fail
  refine wp_at_world ?_
  intro W hW
  have hWs : W.heap.size = w.heap.size + 1 := by rw [hW]; simp
  have HR0 : Hid (PRel w s.data.toList 0 0 W) := by
    refine ⟨fun j hj => by omega, rfl, ?_, ?_, ?_, ?_, ?_⟩
    · rw [hW]; simp [go_sem, accA]
    · rw [hW]; simp [go_sem, accB]
    · rw [hW]; simp [go_sem, accC]
    · intro o; rw [hW]; simp [go_sem]
    · rw [hW]
      show Bel w _
      repeat (first | exact Bel.refl _ | refine Bel.alloc ?_ _ | refine Bel.setCell ?_ _ _ ?_ | exact Nat.le_refl _ | (simp; done) | omega)
  clear hW h h10
  go_loopw [5, 6] (fun u v wr => ∃ (k : Int) (i : Nat), u = .int .i64 k ∧ v = .int .i64 (i : Int) ∧ i ≤ 10 ∧ PRel w s.data.toList i k wr) (fun _ v _ => 10 - (intOf v).toNat)
  case atStart => exact ⟨0, 0, rfl, rfl, by omega, HR0.out⟩
  case round =>
    obtain ⟨k, i, rfl, rfl, hi, hok, hk, c0, c1, c2, cf, hbl⟩ := hrel
    have HBL := Lib.hid hbl
    have hz := hbl.size
    have HOK := Lib.hid hok
    have hbk : w.heap.size < wr.heap.size := World.block_lt_of_cell? wr _ c0
    have CF := Lib.hid cf
    obtain ⟨ba, bb, bc⟩ := acc_bd hok
    have hp : 10 ^ i ≤ 10 ^ 10 := Nat.pow_le_pow_right (by omega) hi
    have HA : Hid (accA s.data.toList (i + 1) = if i < 4 then 10 * accA s.data.toList i + ((s.data.toList.getD i 0).toNat - 48) else accA s.data.toList i) := rfl
    have HB : Hid (accB s.data.toList (i + 1) = if 4 < i ∧ i < 7 then 10 * accB s.data.toList i + ((s.data.toList.getD i 0).toNat - 48) else accB s.data.toList i) := rfl
    have HC : Hid (accC s.data.toList (i + 1) = if 7 < i then 10 * accC s.data.toList i + ((s.data.toList.getD i 0).toNat - 48) else accC s.data.toList i) := rfl
    have ba2 : accA s.data.toList i < 10000000000 := by omega
    have bb2 : accB s.data.toList i < 10000000000 := by omega
    have bc2 : accC s.data.toList i < 10000000000 := by omega
    have HACC : Hid (i = 10 → accA s.data.toList 10 = accA s.data.toList i ∧ accB s.data.toList 10 = accB s.data.toList i ∧ accC s.data.toList 10 = accC s.data.toList i) := fun e => by rw [e]; exact ⟨rfl, rfl, rfl⟩
    clear hbl hok cf ba bb bc hp
    obtain ⟨f0, f1, f2⟩ := And.intro (CF.out 0) (And.intro (CF.out 1) (CF.out 2))
    generalize hqa : accA s.data.toList i = va at *
    generalize hqb : accB s.data.toList i = vb at *
    generalize hqc : accC s.data.toList i = vc at *
    clear hqa hqb hqc
    by_cases hlt : i < 10
    · have his : i < s.size := by have := HS.out; omega
      have HG : Hid (s[i] = s.data.toList.getD i 0) := baC_getD s i his
      by_cases h4 : i = 4
      · subst h4
        obtain rfl : k = 0 := hk
        by_cases hc : s[4] = 45
        · have j1 : ((s[4].toNat : Int) == 45) = true := by rw [hc]; rfl
          have j2 : (s[4].toNat : Int) = 45 := by rw [hc]; rfl
          have hd : okC s.data.toList 4 = true := by
            unfold okC
            rw [if_pos (by omega), ← HG.out, hc]; rfl
          have HOK2 := Lib.hid (okC_step HOK.out hd)
          clear hc hd
          go_wp2_with fail
          go_roundw
          case rel => exact ⟨_, 4 + 1, rfl, rfl, by omega, HOK2.out, by rfl, by rw [HA.out, if_neg (by omega)]; exact c0, by rw [HB.out, if_neg (by omega)]; exact c1, by rw [HC.out, if_neg (by omega)]; exact c2, CF.out, HBL.out⟩
          case measure => simp [intOf]
        · have j1 := u8_dash hc
          have j2 : ¬ (s[4].toNat : Int) = 45 := by simpa using j1
          have hd : okC s.data.toList 4 = false := by
            unfold okC
            rw [if_pos (by omega), ← HG.out]; simpa using hc
          have HV : Hid (parseV s.data.toList = (0, 3)) := parse_bad HL.out hlt hd
          clear hc hd
          go_wp2_with fail
          go_ret2
          exact ⟨by rw [HV.out]; rfl, HBL.out⟩
      · by_cases h7 : i = 7
        · subst h7
          obtain rfl : k = 1 := hk
          by_cases hc : s[7] = 45
          · have j1 : ((s[7].toNat : Int) == 45) = true := by rw [hc]; rfl
            have j2 : (s[7].toNat : Int) = 45 := by rw [hc]; rfl
            have hd : okC s.data.toList 7 = true := by
              unfold okC
              rw [if_pos (by omega), ← HG.out, hc]; rfl
            have HOK2 := Lib.hid (okC_step HOK.out hd)
            clear hc hd
            go_wp2_with fail
            go_roundw
            case rel => exact ⟨_, 7 + 1, rfl, rfl, by omega, HOK2.out, by rfl, by rw [HA.out, if_neg (by omega)]; exact c0, by rw [HB.out, if_neg (by omega)]; exact c1, by rw [HC.out, if_neg (by omega)]; exact c2, CF.out, HBL.out⟩
            case measure => simp [intOf]
          · have j1 := u8_dash hc
            have j2 : ¬ (s[7].toNat : Int) = 45 := by simpa using j1
            have hd : okC s.data.toList 7 = false := by
              unfold okC
              rw [if_pos (by omega), ← HG.out]; simpa using hc
            have HV : Hid (parseV s.data.toList = (0, 3)) := parse_bad HL.out hlt hd
            clear hc hd
            go_wp2_with fail
            go_ret2
            exact ⟨by rw [HV.out]; rfl, HBL.out⟩
        · have e4 : ((i : Int) == 4) = false := by simp; omega
          have e7 : ((i : Int) == 7) = false := by simp; omega
          have e4' : ¬ (i : Int) = 4 := by omega
          have e7' : ¬ (i : Int) = 7 := by omega
          cases hd : okC s.data.toList i with
          | false =>
            have HV : Hid (parseV s.data.toList = (0, 3)) := parse_bad HL.out hlt hd
            have hbad : (s[i].toNat : Int) < 48 ∨ 57 < (s[i].toNat : Int) := by
              unfold okC at hd
              rw [if_neg (by omega), ← HG.out] at hd
              unfold isD at hd
              rw [Bool.and_eq_false_iff, decide_eq_false_iff_not, decide_eq_false_iff_not] at hd
              omega
            clear hd
            rcases hbad with hb | hb
            · go_wp2_with fail
              go_ret2
              exact ⟨by rw [HV.out]; rfl, HBL.out⟩
            · have hb' : ¬ (s[i].toNat : Int) < 48 := by omega
              go_wp2_with fail
              all_goals
                go_ret2
                exact ⟨by rw [HV.out]; rfl, HBL.out⟩
          | true =>
            have HOK2 := Lib.hid (okC_step HOK.out hd)
            obtain ⟨g1, g2⟩ := okC_digit hd h4 h7
            rw [← HG.out] at g1 g2
            have g1' : ¬ (s[i].toNat : Int) < 48 := by omega
            have g2' : ¬ 57 < (s[i].toNat : Int) := by omega
            have HD : Hid (((s.data.toList.getD i 0).toNat - 48 : Nat) = s[i].toNat - 48) := by unfold Hid; rw [HG.out]
            have q1 : IntKind.u8.wrap ((s[i].toNat : Int) - 48) = (s[i].toNat : Int) - 48 := by rw [IntKind.wrap_u8]; omega
            have q2 : IntKind.i64.wrap ((s[i].toNat : Int) - 48) = (s[i].toNat : Int) - 48 := IntWalk.i64_in _ (by omega)
            clear hd
            by_cases hA : i < 4
            · have hk0 : k = 0 := by rw [hk, if_neg (by omega)]
              subst hk0
              clear hk
              have q3 : IntKind.i64.wrap (10 * (va : Int)) = 10 * (va : Int) := IntWalk.i64_in _ (by omega)
              have q4 : IntKind.i64.wrap (10 * (va : Int) + ((s[i].toNat : Int) - 48)) = 10 * (va : Int) + ((s[i].toNat : Int) - 48) := IntWalk.i64_in _ (by omega)
              go_wp2_with fail
              refine wp_region_ext_tail 12 (by kernel_rfl) (by kernel_rfl) ?_
              simp only [List.take_succ_cons, List.take_zero, List.drop_succ_cons, List.drop_zero]
              repeat (go_big_quiet_step (fail))
              refine wpQuiet_nil ?_
              intro _ hw'
              obtain ⟨y, hw''⟩ := hw'
              subst hw''
              have HBY := Lib.hid (HBL.out.trans (y.2.mono hz))
              have y0 := (y.cell ⟨w.heap.size, 0, none⟩ hbk).trans c0
              have y1 := (y.cell ⟨w.heap.size, 1, none⟩ hbk).trans c1
              have y2 := (y.cell ⟨w.heap.size, 2, none⟩ hbk).trans c2
              have YF : Hid (∀ o, y.1.frozen? ⟨w.heap.size, o, none⟩ = false) := fun o => (y.frozen ⟨w.heap.size, o, none⟩ hbk).trans (CF.out o)
              obtain ⟨Y, hY⟩ := y
              simp only at HBY y0 y1 y2 YF ⊢
              have f3 := YF.out 0
              clear hY c0 c1 c2
              go_wp2_with fail
              all_goals
                go_roundw
                case rel => exact ⟨_, i + 1, rfl, by go_num, by omega, HOK2.out, by rw [if_neg (by omega)], by rw [HA.out, if_pos (by omega), HD.out]; refine (World.cell?_setCell_same' _ _ _ (by go_simp)).trans ?_; congr 2; omega, by rw [HB.out, if_neg (by omega)]; simp [go_sem]; exact y1, by rw [HC.out, if_neg (by omega)]; simp [go_sem]; exact y2, fun o => by simp [go_sem]; exact YF.out o, by (show Bel w _; repeat (first | exact HBY.out | refine Bel.setCell ?_ _ _ ?_ | refine Bel.drew ?_ | exact Nat.le_refl _ | (simp; done) | omega))⟩
                case measure => simp [intOf]; omega
            · by_cases hB : i < 7
              · have hk0 : k = 1 := by rw [hk, if_pos (by omega), if_neg (by omega)]
                subst hk0
                clear hk
                have q3 : IntKind.i64.wrap (10 * (vb : Int)) = 10 * (vb : Int) := IntWalk.i64_in _ (by omega)
                have q4 : IntKind.i64.wrap (10 * (vb : Int) + ((s[i].toNat : Int) - 48)) = 10 * (vb : Int) + ((s[i].toNat : Int) - 48) := IntWalk.i64_in _ (by omega)
                go_wp2_with fail
                refine wp_region_ext_tail 12 (by kernel_rfl) (by kernel_rfl) ?_
                simp only [List.take_succ_cons, List.take_zero, List.drop_succ_cons, List.drop_zero]
                repeat (go_big_quiet_step (fail))
                refine wpQuiet_nil ?_
                intro _ hw'
                obtain ⟨y, hw''⟩ := hw'
                subst hw''
                have HBY := Lib.hid (HBL.out.trans (y.2.mono hz))
                have y0 := (y.cell ⟨w.heap.size, 0, none⟩ hbk).trans c0
                have y1 := (y.cell ⟨w.heap.size, 1, none⟩ hbk).trans c1
                have y2 := (y.cell ⟨w.heap.size, 2, none⟩ hbk).trans c2
                have YF : Hid (∀ o, y.1.frozen? ⟨w.heap.size, o, none⟩ = false) := fun o => (y.frozen ⟨w.heap.size, o, none⟩ hbk).trans (CF.out o)
                obtain ⟨Y, hY⟩ := y
                simp only at HBY y0 y1 y2 YF ⊢
                have f3 := YF.out 1
                clear hY c0 c1 c2
                go_wp2_with fail
                all_goals
                  go_roundw
                  case rel => exact ⟨_, i + 1, rfl, by go_num, by omega, HOK2.out, by rw [if_pos (by omega), if_neg (by omega)], by rw [HA.out, if_neg (by omega)]; simp [go_sem]; exact y0, by rw [HB.out, if_pos (by omega), HD.out]; refine (World.cell?_setCell_same' _ _ _ (by go_simp)).trans ?_; congr 2; omega, by rw [HC.out, if_neg (by omega)]; simp [go_sem]; exact y2, fun o => by simp [go_sem]; exact YF.out o, by (show Bel w _; repeat (first | exact HBY.out | refine Bel.setCell ?_ _ _ ?_ | refine Bel.drew ?_ | exact Nat.le_refl _ | (simp; done) | omega))⟩
                  case measure => simp [intOf]; omega
              · have hk0 : k = 2 := by rw [hk, if_pos (by omega), if_pos (by omega)]
                subst hk0
                clear hk
                have q3 : IntKind.i64.wrap (10 * (vc : Int)) = 10 * (vc : Int) := IntWalk.i64_in _ (by omega)
                have q4 : IntKind.i64.wrap (10 * (vc : Int) + ((s[i].toNat : Int) - 48)) = 10 * (vc : Int) + ((s[i].toNat : Int) - 48) := IntWalk.i64_in _ (by omega)
                go_wp2_with fail
                refine wp_region_ext_tail 12 (by kernel_rfl) (by kernel_rfl) ?_
                simp only [List.take_succ_cons, List.take_zero, List.drop_succ_cons, List.drop_zero]
                repeat (go_big_quiet_step (fail))
                refine wpQuiet_nil ?_
                intro _ hw'
                obtain ⟨y, hw''⟩ := hw'
                subst hw''
                have HBY := Lib.hid (HBL.out.trans (y.2.mono hz))
                have y0 := (y.cell ⟨w.heap.size, 0, none⟩ hbk).trans c0
                have y1 := (y.cell ⟨w.heap.size, 1, none⟩ hbk).trans c1
                have y2 := (y.cell ⟨w.heap.size, 2, none⟩ hbk).trans c2
                have YF : Hid (∀ o, y.1.frozen? ⟨w.heap.size, o, none⟩ = false) := fun o => (y.frozen ⟨w.heap.size, o, none⟩ hbk).trans (CF.out o)
                obtain ⟨Y, hY⟩ := y
                simp only at HBY y0 y1 y2 YF ⊢
                have f3 := YF.out 2
                clear hY c0 c1 c2
                go_wp2_with fail
                all_goals
                  go_roundw
                  case rel => exact ⟨_, i + 1, rfl, by go_num, by omega, HOK2.out, by rw [if_pos (by omega), if_pos (by omega)], by rw [HA.out, if_neg (by omega)]; simp [go_sem]; exact y0, by rw [HB.out, if_neg (by omega)]; simp [go_sem]; exact y1, by rw [HC.out, if_pos (by omega), HD.out]; refine (World.cell?_setCell_same' _ _ _ (by go_simp)).trans ?_; congr 2; omega, fun o => by simp [go_sem]; exact YF.out o, by (show Bel w _; repeat (first | exact HBY.out | refine Bel.setCell ?_ _ _ ?_ | refine Bel.drew ?_ | exact Nat.le_refl _ | (simp; done) | omega))⟩
                  case measure => simp [intOf]; omega
    · obtain rfl : i = 10 := by omega
      have HV := Lib.hid (parse_acc HL.out HOK.out)
      obtain ⟨x1, x2, x3⟩ := HACC.out rfl
      rw [x1, x2, x3] at HV
      have HOV := Lib.hid (fun w => HOF.out (va : Int) (vb : Int) (vc : Int) w)
      clear x1 x2 x3 hk
      generalize ofV (va : Int) (vb : Int) (vc : Int) = ov at *
      go_wp2_with fail
      refine (HOV.out _).mono ?_
      rintro e w2 ⟨rfl, hb2⟩
      go_wp2_with fail
      go_ret2
      exact ⟨by rw [HV.out]; rfl, HBL.out.trans (hb2.mono hz)⟩
theorem rparse_any (s : ByteArray) (w : World) (hs : s.size ≤ 1000) : Calls Tryz.prog 19 #[.string s] w fun e w' => e = .returned (.tuple #[.int .i64 (parseV s.data.toList).1, .int .i64 ((parseV s.data.toList).2 : Nat)]) ∧ Below w.heap.size w w' := by
  by_cases h : s.size = 10
  · exact rparse_ten s w h
  · rw [parse_len (by rw [size_len]; exact h)]
    exact rparse_len s w hs h
end Go.Proofs.YtaolbfbnjbpljaaGreatDoor
