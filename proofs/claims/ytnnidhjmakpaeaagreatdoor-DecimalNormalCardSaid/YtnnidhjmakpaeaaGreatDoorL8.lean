/- DecimalNormal: Normal keeps the value, is its own normal form, and its operands v and f are w and t of the number; two numbers have the same value exactly if they have the same normal form. -/
import Derived.Test.YtnnidhjmakpaeaaGreatDoorW15
import Derived.Test.YtnnidhjmakpaeaaGreatDoorW16
import Derived.Test.YtnnidhjmakpaeaaGreatDoorW23
import Derived.Test.YtnnidhjmakpaeaaGreatDoorP9
import Derived.Test.YtnnidhjmakpaeaaGreatDoorO
namespace Go.Proofs.YtnnidhjmakpaeaaGreatDoor
open Go.RowKit
attribute [local go_sem] Ext.cell Ext.frozen
attribute [local go_sem ↓] Go.wp_at_zero Go.wp_at_succ

theorem same_is {l m : List UInt8} (h1 : dOk l = true) (h2 : dOk m = true) : sameV l m = (decide (mv l = mv m), 0) := by
  unfold sameV; rw [compV_yes h1 h2]
  show (decide ((0 : Nat) = 0) && decide (cmpI (mv l) (mv m) = 0), 0) = _
  rw [decide_eq_true (show (0 : Nat) = 0 from rfl), Bool.true_and]
  congr 1
  exact decide_eq_decide.2 cmpI_zero
theorem ok_size {s : ByteArray} (h : dOk s.data.toList = true) : s.size ≤ 23 := by have := dOk_size h; rw [size_len] at this; exact this
set_option maxRecDepth 20000 in
set_option maxHeartbeats 8000000 in
theorem decimalNormal_walk (s t : ByteArray) (w : World) (hs : s.size ≤ 9223372036854775807) (ht : t.size ≤ 9223372036854775807) :
    Calls Tryz.prog 5 #[.string s, .string t] w fun e w' => e = .returned (.bool true) ∧ Below w.heap.size w w' := by
  have HA := Lib.hid awake_any
  have HV := Lib.hid (fun w => rvalid_wide s w hs)
  have HW := Lib.hid (fun w => rvalid_wide t w ht)
  cases ho : dOk s.data.toList with
  | false =>
    rw [ho] at HV
    clear ho
    go_enter Tryz.func5, Tryz.ntmps5
    go_wp2_with fail
    refine (Calls.toExt (HA.out _)).mono ?_
    rintro e _ ⟨rfl, x0, rfl⟩
    go_wp2_with fail
    refine (Calls.toExt (HV.out _)).mono ?_
    rintro e _ ⟨rfl, x1, rfl⟩
    go_wp2_with fail
    refine (Calls.toExt (HA.out _)).mono ?_
    rintro e _ ⟨rfl, x2, rfl⟩
    go_wp2_with fail
    go_ret
    exact ⟨rfl, by (show Bel w _; (repeat (first | exact Bel.refl _ | refine Bel.ext ?_ _ | refine Bel.alloc ?_ _ | refine Bel.drewN ?_ _ | refine Bel.drew ?_ | refine Bel.setCell ?_ _ _ ?_ | exact Nat.le_refl _ | (simp; done) | omega | (simp <;> omega))))⟩
  | true =>
    rw [ho] at HV
    cases ho2 : dOk t.data.toList with
    | false =>
      rw [ho2] at HW
      clear ho ho2
      go_enter Tryz.func5, Tryz.ntmps5
      go_wp2_with fail
      refine (Calls.toExt (HA.out _)).mono ?_
      rintro e _ ⟨rfl, x0, rfl⟩
      go_wp2_with fail
      refine (Calls.toExt (HV.out _)).mono ?_
      rintro e _ ⟨rfl, x1, rfl⟩
      go_wp2_with fail
      refine (Calls.toExt (HW.out _)).mono ?_
      rintro e _ ⟨rfl, x2, rfl⟩
      go_wp2_with fail
      refine (Calls.toExt (HA.out _)).mono ?_
      rintro e _ ⟨rfl, x3, rfl⟩
      go_wp2_with fail
      go_ret
      exact ⟨rfl, by (show Bel w _; (repeat (first | exact Bel.refl _ | refine Bel.ext ?_ _ | refine Bel.alloc ?_ _ | refine Bel.drewN ?_ _ | refine Bel.drew ?_ | refine Bel.setCell ?_ _ _ ?_ | exact Nat.le_refl _ | (simp; done) | omega | (simp <;> omega))))⟩
    | true =>
      rw [ho2] at HW
      have hsz := ok_size ho
      have hsz2 := ok_size ho2
      have hnx := norm_ok ho
      have hny := norm_ok ho2
      have hxs := dOk_size hnx.1
      have HX := Lib.hid (fun w => normal_any s w (by omega))
      have HY := Lib.hid (fun w => normal_any t w (by omega))
      have HZ := Lib.hid (fun w => normal_any (bs (normD s.data.toList).1) w (by rw [bs_size]; omega))
      have HS := Lib.hid (fun w => same_any s (bs (normD s.data.toList).1) w (by omega) (by rw [bs_size]; omega))
      have H1 := Lib.hid (fun w => operand_any (bs (normD s.data.toList).1) 3 w (by rw [bs_size]; omega))
      have H2 := Lib.hid (fun w => operand_any s 4 w (by omega))
      have H3 := Lib.hid (fun w => operand_any (bs (normD s.data.toList).1) 5 w (by rw [bs_size]; omega))
      have H4 := Lib.hid (fun w => operand_any s 6 w (by omega))
      have HE := Lib.hid (fun w => same_any s t w (by omega) (by omega))
      rw [bs_data] at HZ HS H1 H3
      rw [norm_again ho, hnx.2] at HZ
      rw [hnx.2] at HX
      rw [hny.2] at HY
      rw [same_is ho hnx.1, norm_mv ho] at HS
      simp only [decide_true] at HS
      rw [norm_v ho] at H1
      rw [norm_f ho] at H3
      rw [op_w ho] at H2
      rw [op_t ho] at H4
      rw [same_is ho ho2] at HE
      have hi := norm_inj ho ho2
      clear hnx hny ho ho2
      generalize (trimZ (dFrac s.data.toList)).length = q1 at *
      generalize valD (trimZ (dFrac s.data.toList)) = q2 at *
      by_cases hm : mv s.data.toList = mv t.data.toList
      · rw [← hi.1 hm] at HY
        rw [decide_eq_true hm] at HE
        clear hi hm
        generalize bs (normD s.data.toList).1 = x at *
        go_enter Tryz.func5, Tryz.ntmps5
        go_wp2_with fail
        refine (Calls.toExt (HA.out _)).mono ?_
        rintro e _ ⟨rfl, x0, rfl⟩
        go_wp2_with fail
        refine (Calls.toExt (HV.out _)).mono ?_
        rintro e _ ⟨rfl, x1, rfl⟩
        go_wp2_with fail
        refine (Calls.toExt (HW.out _)).mono ?_
        rintro e _ ⟨rfl, x2, rfl⟩
        go_wp2_with fail
        refine (Calls.toExt (HX.out _)).mono ?_
        rintro e _ ⟨rfl, x3, rfl⟩
        go_wp2_with fail
        refine (Calls.toExt (HY.out _)).mono ?_
        rintro e _ ⟨rfl, x4, rfl⟩
        go_wp2_with fail
        refine (Calls.toExt (HZ.out _)).mono ?_
        rintro e _ ⟨rfl, x5, rfl⟩
        go_wp2_with fail
        refine (Calls.toExt (HS.out _)).mono ?_
        rintro e _ ⟨rfl, x6, rfl⟩
        go_wp2_with fail
        refine (Calls.toExt (H1.out _)).mono ?_
        rintro e _ ⟨rfl, x7, rfl⟩
        go_wp2_with fail
        refine (Calls.toExt (H2.out _)).mono ?_
        rintro e _ ⟨rfl, x8, rfl⟩
        go_wp2_with fail
        refine (Calls.toExt (H3.out _)).mono ?_
        rintro e _ ⟨rfl, x9, rfl⟩
        go_wp2_with fail
        refine (Calls.toExt (H4.out _)).mono ?_
        rintro e _ ⟨rfl, x10, rfl⟩
        go_wp2_with fail
        refine (Calls.toExt (HE.out _)).mono ?_
        rintro e _ ⟨rfl, x11, rfl⟩
        go_wp2_with fail
        go_ret
        exact ⟨rfl, by (show Bel w _; (repeat (first | exact Bel.refl _ | refine Bel.ext ?_ _ | refine Bel.alloc ?_ _ | refine Bel.drewN ?_ _ | refine Bel.drew ?_ | refine Bel.setCell ?_ _ _ ?_ | exact Nat.le_refl _ | (simp; done) | omega | (simp <;> omega))))⟩
      · have hne : ¬ bs (normD s.data.toList).1 = bs (normD t.data.toList).1 := fun e => hm (hi.2 (bs_inj e))
        rw [decide_eq_false hm] at HE
        clear hi hm
        generalize bs (normD s.data.toList).1 = x at *
        generalize bs (normD t.data.toList).1 = y at *
        have hne2 : (x.toList == y.toList) = false := by
          rw [beq_eq_false_iff_ne, ByteArray.toList_eq, ByteArray.toList_eq]
          exact fun e => hne (ba_eq e)
        go_enter Tryz.func5, Tryz.ntmps5
        go_wp2_with fail
        refine (Calls.toExt (HA.out _)).mono ?_
        rintro e _ ⟨rfl, x0, rfl⟩
        go_wp2_with fail
        refine (Calls.toExt (HV.out _)).mono ?_
        rintro e _ ⟨rfl, x1, rfl⟩
        go_wp2_with fail
        refine (Calls.toExt (HW.out _)).mono ?_
        rintro e _ ⟨rfl, x2, rfl⟩
        go_wp2_with fail
        refine (Calls.toExt (HX.out _)).mono ?_
        rintro e _ ⟨rfl, x3, rfl⟩
        go_wp2_with fail
        refine (Calls.toExt (HY.out _)).mono ?_
        rintro e _ ⟨rfl, x4, rfl⟩
        go_wp2_with fail
        refine (Calls.toExt (HZ.out _)).mono ?_
        rintro e _ ⟨rfl, x5, rfl⟩
        go_wp2_with fail
        refine (Calls.toExt (HS.out _)).mono ?_
        rintro e _ ⟨rfl, x6, rfl⟩
        go_wp2_with fail
        refine (Calls.toExt (H1.out _)).mono ?_
        rintro e _ ⟨rfl, x7, rfl⟩
        go_wp2_with fail
        refine (Calls.toExt (H2.out _)).mono ?_
        rintro e _ ⟨rfl, x8, rfl⟩
        go_wp2_with fail
        refine (Calls.toExt (H3.out _)).mono ?_
        rintro e _ ⟨rfl, x9, rfl⟩
        go_wp2_with fail
        refine (Calls.toExt (H4.out _)).mono ?_
        rintro e _ ⟨rfl, x10, rfl⟩
        go_wp2_with fail
        refine (Calls.toExt (HE.out _)).mono ?_
        rintro e _ ⟨rfl, x11, rfl⟩
        go_wp2_with fail
        go_ret
        exact ⟨rfl, by (show Bel w _; (repeat (first | exact Bel.refl _ | refine Bel.ext ?_ _ | refine Bel.alloc ?_ _ | refine Bel.drewN ?_ _ | refine Bel.drew ?_ | refine Bel.setCell ?_ _ _ ?_ | exact Nat.le_refl _ | (simp; done) | omega | (simp <;> omega))))⟩
end Go.Proofs.YtnnidhjmakpaeaaGreatDoor
namespace Go.Proofs.YtnnidhjmakpaeaaGreatDoor.lawDecimalNormal
open Go.ChangeShapes Go.WideShapes Go.ChangeAt Go.RowKit Go.Joins
open Go.ChangeMaps (open_string shut_string)
set_option maxRecDepth 100000 in
theorem lifted (os : Os) (started : os.Started) (H : Type) (enc : TypeId × Value → H) :
    ReturnsInHanded {} Tryz.checked os 5 .any (fun w args => (Rows.decimalNormalSpec.pre enc Tryz.prog Tryz.f5 Rows.decimalNormalRow.domain false w args ∧ laidMetH Tryz.prog Rows.decimalNormalRow.laid w) ∧ sizedMet enc Tryz.prog Tryz.f5 (OpenSpec.ofChange Rows.decimalNormalSpec) false w args)
      (Rows.decimalNormalSpec.post enc Tryz.prog Tryz.f5 false true false false) := by
  refine returnsInHanded_of_change_and (C := Tryz.checked) (X := fun w _ => laidMetH Tryz.prog Rows.decimalNormalRow.laid w) (fun _ _ _ hh h => h.of_heap hh) own started (by kernel_rfl) Tryz.func5
    (ChangeSpec.witness_shaped (enc := enc) (C := Tryz.checked) (os := os) (X := fun w _ => laidMetH Tryz.prog Rows.decimalNormalRow.laid w) false (World.laidAll Tryz.prog os Rows.decimalNormalRow.laid) #[.string .empty, .string .empty] 8 (World.laidAll_os _ _ _)
      (World.shaped_of_ZipB (by kernel_rfl) (by kernel_rfl)) (by kernel_rfl) (by kernel_rfl) (by kernel_rfl)
      (by rw [MakeChecks.laidMetH_plain _ _ _ (by kernel_rfl)]; exact laidMet_laidAll _ (by kernel_rfl) (by kernel_rfl))) ?_
  intro W base args ds gs before hval0 hW _ _ hL _
  have hval : ∀ (j : Nat) t v, Tryz.f5.params[j]? = some t → args[j]? = some v → Value.okWide Tryz.prog W .any base t v := hval0
  have hW' := hW
  obtain ⟨p, q, hA0, hV, rfl, hfz, hnd⟩ := hW
  have hA : DataW.TrodAll enc Tryz.prog W 0 (fun _ => true) true Tryz.f5.params.toList args.toList ds p := hA0
  rw [Tryz.params5] at hA hval
  obtain ⟨v0, vs0, d0, ds0, p0, q0, hargs, rfl, rfl, h0, r0⟩ := trodAll_cons hA
  obtain ⟨v1, vs1, d1, ds1, p1, q1, rfl, rfl, rfl, h1, r1⟩ := trodAll_cons r0
  obtain ⟨rfl, rfl, rfl⟩ := trodAll_nil r1
  obtain rfl : args = #[v0, v1] := by cases args; simp_all
  obtain ⟨rfl, rfl⟩ := trodVars_none hV
  obtain ⟨s0, rfl, rfl, rfl, hs0⟩ := open_string Tryz.underlying9 (hval 0 9 v0 rfl rfl) h0
  obtain ⟨s1, rfl, rfl, rfl, hs1⟩ := open_string Tryz.underlying9 (hval 1 9 v1 rfl rfl) h1
  clear hA0 hval0
  refine (decimalNormal_walk s0 s1 W (by unfold maxLen at hs0; omega) (by unfold maxLen at hs1; omega)).mono fun e W' ⟨he, bel⟩ => ?_
  subst he
  exact ⟨_, rfl, _, _, _, [], _, [], hW', trodAll_mk1 (shut_bool Tryz.underlying4 _), (trodAll_cons_mk (shut_string Tryz.underlying9 hs0) (trodAll_cons_mk (shut_string Tryz.underlying9 hs1) trodAll_mk0)), rfl, bel.frame _, fun h => by cases h⟩

theorem proved : Rows.DecimalNormalSaid :=
  OpenClaim.holds_of_wide 5 Tryz.f5 rfl rfl rfl rfl rfl rfl rfl ⟨rfl, rfl, rfl, rfl, rfl⟩ rfl rfl rfl rfl rfl (by kernel_rfl) Tryz.func5 (by kernel_rfl)
    (of_decide_eq_true (by kernel_rfl)) (by unfold Func.isWrapper; first | (rw [if_pos (by decide +kernel)]; kernel_rfl) | (rw [if_neg (by decide +kernel)]; exact ⟨rfl, rfl⟩))
    (fun os started H enc _ => lifted os started H enc)
theorem card : Rows.DecimalNormalCardSaid :=
  Claim7.holds_tied_plain_at .later [] [.data, .data, .data, .data, .sentinel, .sentinel, .pinned] true (true, "6d730b52153a4e0983bd20d12ff5f2b1e61063822b8ac0e74c71fbd9cc71914c") true proved (fun _ h => by cases h) (by kernel_rfl) (fun _ h => by cases h) decimalNormal_row_tie rfl ⟨rfl, rfl⟩ (by kernel_rfl) rfl
    (fun f fn hf hfn => by
      obtain rfl : f = 5 := Option.some.inj ((show Tryz.prog.funcNamed "calque/calquelaw07.DecimalNormal" = some 5 by kernel_rfl).symm.trans hf) |>.symm
      obtain rfl : fn = Tryz.f5 := (Option.some.inj (Tryz.func5.symm.trans hfn)).symm
      exact ⟨by kernel_rfl, fun j t ht => by
        rw [Tryz.params5] at ht
        have hm : t ∈ [9, 9] := by simpa using Array.mem_of_getElem? ht
        have hall : ([9, 9].all fun u => !Tryz.prog.wantsStandIn u) = true := by kernel_rfl
        exact (show Tryz.prog.wantsStandIn t = false by simpa using List.all_eq_true.1 hall t hm)⟩)
    (by kernel_rfl)
#print axioms card
end Go.Proofs.YtnnidhjmakpaeaaGreatDoor.lawDecimalNormal
