/- DateCivil: Civil, Weekday and Text return the specified results for any number; Of and Parse lead back. -/
import Derived.Test.YtaolbfbnjbpljaaGreatDoorM2
import Derived.Test.YtaolbfbnjbpljaaGreatDoorC3
import Derived.Test.YtaolbfbnjbpljaaGreatDoorC4
import Derived.Test.YtaolbfbnjbpljaaGreatDoorC5
import Derived.Test.YtaolbfbnjbpljaaGreatDoorQ1
import Derived.Test.YtaolbfbnjbpljaaGreatDoorO
namespace Go.Proofs.YtaolbfbnjbpljaaGreatDoor
open Go.RowKit
attribute [local go_sem] Ext.cell Ext.frozen
attribute [local go_sem ↓] Go.wp_at_zero Go.wp_at_succ

set_option maxRecDepth 20000 in
set_option maxHeartbeats 8000000 in
theorem dateCivil_walk (n : Int) (w : World) (ht : Tab10 w) : Calls Tryz.prog 4 #[.int .i64 n] w fun e w' => e = .returned (.bool true) ∧ Below w.heap.size w w' := by
  have HA := Lib.hid (awake_any w ht)
  have HC := Lib.hid (fun w => civil_any n w)
  have HRC := Lib.hid (fun w => rcivil_any n w)
  have HT : Hid (∀ w2, Below w.heap.size w w2 → Calls Tryz.prog 15 #[.int .i64 n] w2 fun e w' => e = .returned (.string (bs (txtV n))) ∧ Below w2.heap.size w2 w') := fun w2 g => text_any n w2 (ht.on g)
  have HRT := Lib.hid (fun w => rtext_any n w)
  clear ht
  by_cases h : -25567 ≤ n ∧ n ≤ 84005
  · obtain ⟨y, m, d, hv, hn, hc⟩ := civV_ok h
    obtain ⟨h1, h2⟩ := h
    have HW := Lib.hid (fun w => weekday_yes n w h1 h2)
    have HRW := Lib.hid (fun w => rweekday_yes n w h1 h2)
    have HOF := Lib.hid (fun w => of_any (y : Int) (m : Int) (d : Int) w)
    rw [ofV_nat hv, ← hn] at HOF
    have htx : txtV n = txtD y m d := by rw [hn]; exact txtV_of hv
    have HPA := Lib.hid (fun w => dparse_any (bs (txtV n)) w (by rw [bs_size, htx, txt_len]; omega))
    rw [bs_data, htx, parse_txt hv, ← hn] at HPA
    rw [htx] at HT HRT
    rw [hc] at HC HRC
    clear hc hn htx h1 h2 hv
    generalize bs (txtD y m d) = T at *
    generalize (n + 25567) % 7 = wd at *
    go_enter Tryz.func4, Tryz.ntmps4
    go_wp2_with fail
    refine HA.out.mono ?_
    rintro e w1 ⟨rfl, hb1⟩
    have HB1 := Lib.hid hb1
    clear hb1
    go_wp2_with fail
    refine (HC.out _).mono ?_
    rintro e _ ⟨rfl, rfl⟩
    go_wp2_with fail
    refine (Calls.toExt (HRC.out _)).mono ?_
    rintro e _ ⟨rfl, x1, rfl⟩
    have HB2 := Lib.hid (HB1.out.trans (x1.2.mono HB1.out.size))
    go_wp2_with fail
    refine (HW.out _).mono ?_
    rintro e _ ⟨rfl, rfl⟩
    go_wp2_with fail
    refine (HRW.out _).mono ?_
    rintro e _ ⟨rfl, rfl⟩
    go_wp2_with fail
    refine (Calls.toExt (HT.out _ HB2.out)).mono ?_
    rintro e _ ⟨rfl, x2, rfl⟩
    have HB3 := Lib.hid (HB2.out.trans (x2.2.mono HB2.out.size))
    go_wp2_with fail
    refine (Calls.toExt (HRT.out _)).mono ?_
    rintro e _ ⟨rfl, x3, rfl⟩
    have HB4 := Lib.hid (HB3.out.trans (x3.2.mono HB3.out.size))
    go_wp2_with fail
    refine (Calls.toExt (HOF.out _)).mono ?_
    rintro e _ ⟨rfl, x4, rfl⟩
    have HB5 := Lib.hid (HB4.out.trans (x4.2.mono HB4.out.size))
    go_wp2_with fail
    refine (Calls.toExt (HPA.out _)).mono ?_
    rintro e _ ⟨rfl, x5, rfl⟩
    have HB6 := Lib.hid (HB5.out.trans (x5.2.mono HB5.out.size))
    go_wp2_with fail
    go_ret
    exact ⟨rfl, HB6.out⟩
  · have hc : civV n = (0, 0, 0, 2) := civV_no (by omega)
    have HW := Lib.hid (fun w => weekday_no n w (by omega))
    have HRW := Lib.hid (fun w => rweekday_no n w (by omega))
    have hx : bs (txtV n) = ⟨#[]⟩ := by rw [txtV_no (by omega)]; rfl
    rw [hx] at HT HRT
    rw [hc] at HC HRC
    clear hc hx h
    go_enter Tryz.func4, Tryz.ntmps4
    go_wp2_with fail
    refine HA.out.mono ?_
    rintro e w1 ⟨rfl, hb1⟩
    have HB1 := Lib.hid hb1
    clear hb1
    go_wp2_with fail
    refine (HC.out _).mono ?_
    rintro e _ ⟨rfl, rfl⟩
    go_wp2_with fail
    refine (Calls.toExt (HRC.out _)).mono ?_
    rintro e _ ⟨rfl, x1, rfl⟩
    have HB2 := Lib.hid (HB1.out.trans (x1.2.mono HB1.out.size))
    go_wp2_with fail
    refine (HW.out _).mono ?_
    rintro e _ ⟨rfl, rfl⟩
    go_wp2_with fail
    refine (HRW.out _).mono ?_
    rintro e _ ⟨rfl, rfl⟩
    go_wp2_with fail
    refine (Calls.toExt (HT.out _ HB2.out)).mono ?_
    rintro e _ ⟨rfl, x2, rfl⟩
    have HB3 := Lib.hid (HB2.out.trans (x2.2.mono HB2.out.size))
    go_wp2_with fail
    refine (Calls.toExt (HRT.out _)).mono ?_
    rintro e _ ⟨rfl, x3, rfl⟩
    have HB4 := Lib.hid (HB3.out.trans (x3.2.mono HB3.out.size))
    go_wp2_with fail
    go_ret
    exact ⟨rfl, HB4.out⟩
end Go.Proofs.YtaolbfbnjbpljaaGreatDoor
namespace Go.Proofs.YtaolbfbnjbpljaaGreatDoor.lawDateCivil
open Go.ChangeShapes Go.WideShapes Go.ChangeAt Go.RowKit Go.Joins
open Go.ChangeMaps (open_string shut_string)
set_option maxRecDepth 100000 in
theorem lifted (os : Os) (started : os.Started) (H : Type) (enc : TypeId × Value → H) :
    ReturnsInHanded {} Tryz.checked os 4 .any (fun w args => (Rows.dateCivilSpec.pre enc Tryz.prog Tryz.f4 Rows.dateCivilRow.domain false w args ∧ laidMetH Tryz.prog Rows.dateCivilRow.laid w) ∧ sizedMet enc Tryz.prog Tryz.f4 (OpenSpec.ofChange Rows.dateCivilSpec) false w args)
      (Rows.dateCivilSpec.post enc Tryz.prog Tryz.f4 false true false false) := by
  refine returnsInHanded_of_change_and (C := Tryz.checked) (X := fun w _ => laidMetH Tryz.prog Rows.dateCivilRow.laid w) (fun _ _ _ hh h => h.of_heap hh) own started (by kernel_rfl) Tryz.func4
    (ChangeSpec.witness_shaped (enc := enc) (C := Tryz.checked) (os := os) (X := fun w _ => laidMetH Tryz.prog Rows.dateCivilRow.laid w) false (World.laidAll Tryz.prog os Rows.dateCivilRow.laid) #[.int .i64 0] 8 (World.laidAll_os _ _ _)
      (World.shaped_of_ZipB (by kernel_rfl) (by kernel_rfl)) (by kernel_rfl) (by kernel_rfl) (by kernel_rfl)
      (by rw [MakeChecks.laidMetH_plain _ _ _ (by kernel_rfl)]; exact laidMet_laidAll _ (by kernel_rfl) (by kernel_rfl))) ?_
  intro W base args ds gs before hval0 hW _ _ hL _
  have hval : ∀ (j : Nat) t v, Tryz.f4.params[j]? = some t → args[j]? = some v → Value.okWide Tryz.prog W .any base t v := hval0
  have hW' := hW
  obtain ⟨p, q, hA0, hV, rfl, hfz, hnd⟩ := hW
  have hA : DataW.TrodAll enc Tryz.prog W 0 (fun _ => true) true Tryz.f4.params.toList args.toList ds p := hA0
  rw [Tryz.params4] at hA hval
  obtain ⟨v0, vs0, d0, ds0, p0, q0, hargs, rfl, rfl, h0, r0⟩ := trodAll_cons hA
  obtain ⟨rfl, rfl, rfl⟩ := trodAll_nil r0
  obtain rfl : args = #[v0] := by cases args; simp_all
  obtain ⟨rfl, rfl⟩ := trodVars_none hV
  obtain ⟨z0, rfl, rfl, rfl, hz0⟩ := open_int Tryz.underlying3 (hval 0 3 v0 rfl rfl) h0
  clear hA0 hval0
  refine (dateCivil_walk z0 W (tab10_of (by kernel_rfl) hL)).mono fun e W' ⟨he, bel⟩ => ?_
  subst he
  exact ⟨_, rfl, _, _, _, [], _, [], hW', trodAll_mk1 (shut_bool Tryz.underlying4 _), (trodAll_cons_mk (shut_int Tryz.underlying3 hz0) trodAll_mk0), rfl, bel.frame _, fun h => by cases h⟩

theorem proved : Rows.DateCivilSaid :=
  OpenClaim.holds_of_wide 4 Tryz.f4 rfl rfl rfl rfl rfl rfl rfl ⟨rfl, rfl, rfl, rfl, rfl⟩ rfl rfl rfl rfl rfl (by kernel_rfl) Tryz.func4 (by kernel_rfl)
    (of_decide_eq_true (by kernel_rfl)) (by unfold Func.isWrapper; first | (rw [if_pos (by decide +kernel)]; kernel_rfl) | (rw [if_neg (by decide +kernel)]; exact ⟨rfl, rfl⟩))
    (fun os started H enc _ => lifted os started H enc)
theorem card : Rows.DateCivilCardSaid :=
  Claim7.holds_tied_plain_at .later [] [.data, .data, .data, .data, .sentinel, .sentinel, .pinned] true (true, "3db465137fd69d102968c619fb423cdecd63e8bc0b1cbba07c9796f9e9176a9c") true proved (fun _ h => by cases h) (by kernel_rfl) (fun _ h => by cases h) dateCivil_row_tie rfl ⟨rfl, rfl⟩ (by kernel_rfl) rfl
    (fun f fn hf hfn => by
      obtain rfl : f = 4 := Option.some.inj ((show Tryz.prog.funcNamed "calque/calquelaw18.DateCivil" = some 4 by kernel_rfl).symm.trans hf) |>.symm
      obtain rfl : fn = Tryz.f4 := (Option.some.inj (Tryz.func4.symm.trans hfn)).symm
      exact ⟨by kernel_rfl, fun j t ht => by
        rw [Tryz.params4] at ht
        have hm : t ∈ [3] := by simpa using Array.mem_of_getElem? ht
        have hall : ([3].all fun u => !Tryz.prog.wantsStandIn u) = true := by kernel_rfl
        exact (show Tryz.prog.wantsStandIn t = false by simpa using List.all_eq_true.1 hall t hm)⟩)
    (by kernel_rfl)
#print axioms card
end Go.Proofs.YtaolbfbnjbpljaaGreatDoor.lawDateCivil
