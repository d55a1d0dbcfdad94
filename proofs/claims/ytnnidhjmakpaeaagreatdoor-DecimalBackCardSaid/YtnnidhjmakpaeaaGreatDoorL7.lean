/- DecimalBack: shifting by some digits and back leads to the same value, if both are possible; shifting by 0 changes nothing. -/
import Derived.Test.YtnnidhjmakpaeaaGreatDoorW15
import Derived.Test.YtnnidhjmakpaeaaGreatDoorW23
import Derived.Test.YtnnidhjmakpaeaaGreatDoorP9
import Derived.Test.YtnnidhjmakpaeaaGreatDoorO
namespace Go.Proofs.YtnnidhjmakpaeaaGreatDoor
open Go.RowKit
attribute [local go_sem] Ext.cell Ext.frozen
attribute [local go_sem ↓] Go.wp_at_zero Go.wp_at_succ

theorem bs_nil : bs [] = ⟨#[]⟩ := rfl
theorem same_yes {l m : List UInt8} (h1 : dOk l = true) (h2 : dOk m = true) (h : mv l = mv m) : sameV l m = (true, 0) := by
  unfold sameV; rw [compV_yes h1 h2, cmpI_zero.2 h]; rfl
theorem ok_size {s : ByteArray} (h : dOk s.data.toList = true) : s.size ≤ 23 := by have := dOk_size h; rw [size_len] at this; exact this
set_option maxHeartbeats 4000000 in
theorem decimalBack_walk (s : ByteArray) (n : Int) (w : World) (hs : s.size ≤ 9223372036854775807) (hn : (Lit.int .i8 n).wf = true) :
    Calls Tryz.prog 4 #[.string s, .int .i8 n] w fun e w' => e = .returned (.bool true) ∧ Below w.heap.size w w' := by
  have hn1 : -128 ≤ n ∧ n ≤ 127 := by simpa [Lit.wf, IntKind.min, IntKind.max, IntKind.signed, IntKind.bits] using hn
  obtain ⟨hn1, hn2⟩ := hn1
  clear hn
  have hw1 : IntKind.i64.wrap n = n := by rw [IntKind.wrap_i64]; omega
  have HA := Lib.hid awake_any
  have HV := Lib.hid (fun w => rvalid_wide s w hs)
  cases ho : dOk s.data.toList with
  | false =>
    rw [ho] at HV
    clear ho
    go_enter Tryz.func4, Tryz.ntmps4
    go_wp2_with fail
    refine (Calls.toExt (HA.out _)).mono ?_
    rintro e _ ⟨rfl, x0, rfl⟩
    go_wp2_with fail
    refine (Calls.toExt (HV.out _)).mono ?_
    rintro e _ ⟨rfl, x1, rfl⟩
    go_wp2_with fail
    refine (Calls.toExt (HA.out _)).mono ?_
    rintro e _ ⟨rfl, x2, rfl⟩
    go_wp2_with fail
    go_ret
    exact ⟨rfl, by (show Bel w _; (repeat (first | exact Bel.refl _ | refine Bel.ext ?_ _ | refine Bel.alloc ?_ _ | refine Bel.drewN ?_ _ | refine Bel.drew ?_ | refine Bel.setCell ?_ _ _ ?_ | exact Nat.le_refl _ | (simp; done) | omega | (simp <;> omega))))⟩
  | true =>
    have hsz := ok_size ho
    have H0 := Lib.hid (fun w => shift_any s 0 w (by omega))
    rw [shift_zero ho, bs_self] at H0
    have H1 := Lib.hid (fun w => shift_any s n w (by omega))
    rcases shift_val ho n with hv | ⟨hc, hd, _⟩
    · rw [hv] at H1
      simp only [bs_nil] at H1
      rw [ho] at HV
      clear hv ho
      go_enter Tryz.func4, Tryz.ntmps4
      go_wp2_with fail
      refine (Calls.toExt (HA.out _)).mono ?_
      rintro e _ ⟨rfl, x0, rfl⟩
      go_wp2_with fail
      refine (Calls.toExt (HV.out _)).mono ?_
      rintro e _ ⟨rfl, x1, rfl⟩
      go_wp2_with fail
      refine (Calls.toExt (H0.out _)).mono ?_
      rintro e _ ⟨rfl, x2, rfl⟩
      go_wp2_with fail
      refine (Calls.toExt (H1.out _)).mono ?_
      rintro e _ ⟨rfl, x3, rfl⟩
      go_wp2_with fail
      go_ret
      exact ⟨rfl, by (show Bel w _; (repeat (first | exact Bel.refl _ | refine Bel.ext ?_ _ | refine Bel.alloc ?_ _ | refine Bel.drewN ?_ _ | refine Bel.drew ?_ | refine Bel.setCell ?_ _ _ ?_ | exact Nat.le_refl _ | (simp; done) | omega | (simp <;> omega))))⟩
    · rcases hx : (shiftD s.data.toList n).1 with _ | _
      · rw [hx] at hd; exact absurd hd (by decide)
      have hrs := dOk_size hd
      have H2 := Lib.hid (fun w => shift_any (bs (shiftD s.data.toList n).1) (-n) w (by rw [bs_size]; omega))
      rw [bs_data] at H2
      rcases shift_val hd (-n) with hv | ⟨hc2, hd2, _⟩
      · rw [hv] at H2
        rw [hc] at H1
        rw [ho] at HV
        clear hv ho hc hd hx
        generalize bs (shiftD s.data.toList n).1 = r at *
        go_enter Tryz.func4, Tryz.ntmps4
        go_wp2_with fail
        refine (Calls.toExt (HA.out _)).mono ?_
        rintro e _ ⟨rfl, x0, rfl⟩
        go_wp2_with fail
        refine (Calls.toExt (HV.out _)).mono ?_
        rintro e _ ⟨rfl, x1, rfl⟩
        go_wp2_with fail
        refine (Calls.toExt (H0.out _)).mono ?_
        rintro e _ ⟨rfl, x2, rfl⟩
        go_wp2_with fail
        refine (Calls.toExt (H1.out _)).mono ?_
        rintro e _ ⟨rfl, x3, rfl⟩
        go_wp2_with fail
        refine (Calls.toExt (H2.out _)).mono ?_
        rintro e _ ⟨rfl, x4, rfl⟩
        go_wp2_with fail
        go_ret
        exact ⟨rfl, by (show Bel w _; (repeat (first | exact Bel.refl _ | refine Bel.ext ?_ _ | refine Bel.alloc ?_ _ | refine Bel.drewN ?_ _ | refine Bel.drew ?_ | refine Bel.setCell ?_ _ _ ?_ | exact Nat.le_refl _ | (simp; done) | omega | (simp <;> omega))))⟩
      · have hrs2 := dOk_size hd2
        have hback := shift_back ho hc hc2
        have HS := Lib.hid (fun w => same_any s (bs (shiftD (shiftD s.data.toList n).1 (-n)).1) w (by omega) (by rw [bs_size]; omega))
        rw [bs_data, same_yes ho hd2 hback.symm] at HS
        rw [hc2] at H2
        rw [hc] at H1
        rw [ho] at HV
        clear ho hc hd hx hback hc2 hd2 hrs hrs2
        generalize bs (shiftD (shiftD s.data.toList n).1 (-n)).1 = r2 at *
        generalize bs (shiftD s.data.toList n).1 = r at *
        go_enter Tryz.func4, Tryz.ntmps4
        go_wp2_with fail
        refine (Calls.toExt (HA.out _)).mono ?_
        rintro e _ ⟨rfl, x0, rfl⟩
        go_wp2_with fail
        refine (Calls.toExt (HV.out _)).mono ?_
        rintro e _ ⟨rfl, x1, rfl⟩
        go_wp2_with fail
        refine (Calls.toExt (H0.out _)).mono ?_
        rintro e _ ⟨rfl, x2, rfl⟩
        go_wp2_with fail
        refine (Calls.toExt (H1.out _)).mono ?_
        rintro e _ ⟨rfl, x3, rfl⟩
        go_wp2_with fail
        refine (Calls.toExt (H2.out _)).mono ?_
        rintro e _ ⟨rfl, x4, rfl⟩
        go_wp2_with fail
        refine (Calls.toExt (HS.out _)).mono ?_
        rintro e _ ⟨rfl, x5, rfl⟩
        go_wp2_with fail
        go_ret
        exact ⟨rfl, by (show Bel w _; (repeat (first | exact Bel.refl _ | refine Bel.ext ?_ _ | refine Bel.alloc ?_ _ | refine Bel.drewN ?_ _ | refine Bel.drew ?_ | refine Bel.setCell ?_ _ _ ?_ | exact Nat.le_refl _ | (simp; done) | omega | (simp <;> omega))))⟩
end Go.Proofs.YtnnidhjmakpaeaaGreatDoor
namespace Go.Proofs.YtnnidhjmakpaeaaGreatDoor.lawDecimalBack
open Go.ChangeShapes Go.WideShapes Go.ChangeAt Go.RowKit Go.Joins
open Go.ChangeMaps (open_string shut_string)
set_option maxRecDepth 100000 in
theorem lifted (os : Os) (started : os.Started) (H : Type) (enc : TypeId × Value → H) :
    ReturnsInHanded {} Tryz.checked os 4 .any (fun w args => (Rows.decimalBackSpec.pre enc Tryz.prog Tryz.f4 Rows.decimalBackRow.domain false w args ∧ laidMetH Tryz.prog Rows.decimalBackRow.laid w) ∧ sizedMet enc Tryz.prog Tryz.f4 (OpenSpec.ofChange Rows.decimalBackSpec) false w args)
      (Rows.decimalBackSpec.post enc Tryz.prog Tryz.f4 false true false false) := by
  refine returnsInHanded_of_change_and (C := Tryz.checked) (X := fun w _ => laidMetH Tryz.prog Rows.decimalBackRow.laid w) (fun _ _ _ hh h => h.of_heap hh) own started (by kernel_rfl) Tryz.func4
    (ChangeSpec.witness_shaped (enc := enc) (C := Tryz.checked) (os := os) (X := fun w _ => laidMetH Tryz.prog Rows.decimalBackRow.laid w) false (World.laidAll Tryz.prog os Rows.decimalBackRow.laid) #[.string .empty, .int .i8 0] 8 (World.laidAll_os _ _ _)
      (World.shaped_of_ZipB (by kernel_rfl) (by kernel_rfl)) (by kernel_rfl) (by kernel_rfl) (by kernel_rfl)
      (by rw [MakeChecks.laidMetH_plain _ _ _ (by kernel_rfl)]; exact laidMet_laidAll _ (by kernel_rfl) (by kernel_rfl))) ?_
  intro W base args ds gs before hval0 hW _ _ hL _
  have hval : ∀ (j : Nat) t v, Tryz.f4.params[j]? = some t → args[j]? = some v → Value.okWide Tryz.prog W .any base t v := hval0
  have hW' := hW
  obtain ⟨p, q, hA0, hV, rfl, hfz, hnd⟩ := hW
  have hA : DataW.TrodAll enc Tryz.prog W 0 (fun _ => true) true Tryz.f4.params.toList args.toList ds p := hA0
  rw [Tryz.params4] at hA hval
  obtain ⟨v0, vs0, d0, ds0, p0, q0, hargs, rfl, rfl, h0, r0⟩ := trodAll_cons hA
  obtain ⟨v1, vs1, d1, ds1, p1, q1, rfl, rfl, rfl, h1, r1⟩ := trodAll_cons r0
  obtain ⟨rfl, rfl, rfl⟩ := trodAll_nil r1
  obtain rfl : args = #[v0, v1] := by cases args; simp_all
  obtain ⟨rfl, rfl⟩ := trodVars_none hV
  obtain ⟨s0, rfl, rfl, rfl, hs0⟩ := open_string Tryz.underlying9 (hval 0 9 v0 rfl rfl) h0
  obtain ⟨z1, rfl, rfl, rfl, hz1⟩ := open_int Tryz.underlying29 (hval 1 29 v1 rfl rfl) h1
  clear hA0 hval0
  refine (decimalBack_walk s0 z1 W (by unfold maxLen at hs0; omega) hz1).mono fun e W' ⟨he, bel⟩ => ?_
  subst he
  exact ⟨_, rfl, _, _, _, [], _, [], hW', trodAll_mk1 (shut_bool Tryz.underlying4 _), (trodAll_cons_mk (shut_string Tryz.underlying9 hs0) (trodAll_cons_mk (shut_int Tryz.underlying29 hz1) trodAll_mk0)), rfl, bel.frame _, fun h => by cases h⟩

theorem proved : Rows.DecimalBackSaid :=
  OpenClaim.holds_of_wide 4 Tryz.f4 rfl rfl rfl rfl rfl rfl rfl ⟨rfl, rfl, rfl, rfl, rfl⟩ rfl rfl rfl rfl rfl (by kernel_rfl) Tryz.func4 (by kernel_rfl)
    (of_decide_eq_true (by kernel_rfl)) (by unfold Func.isWrapper; first | (rw [if_pos (by decide +kernel)]; kernel_rfl) | (rw [if_neg (by decide +kernel)]; exact ⟨rfl, rfl⟩))
    (fun os started H enc _ => lifted os started H enc)
theorem card : Rows.DecimalBackCardSaid :=
  Claim7.holds_tied_plain_at .later [] [.data, .data, .data, .data, .sentinel, .sentinel, .pinned] true (true, "6d730b52153a4e0983bd20d12ff5f2b1e61063822b8ac0e74c71fbd9cc71914c") true proved (fun _ h => by cases h) (by kernel_rfl) (fun _ h => by cases h) decimalBack_row_tie rfl ⟨rfl, rfl⟩ (by kernel_rfl) rfl
    (fun f fn hf hfn => by
      obtain rfl : f = 4 := Option.some.inj ((show Tryz.prog.funcNamed "calque/calquelaw07.DecimalBack" = some 4 by kernel_rfl).symm.trans hf) |>.symm
      obtain rfl : fn = Tryz.f4 := (Option.some.inj (Tryz.func4.symm.trans hfn)).symm
      exact ⟨by kernel_rfl, fun j t ht => by
        rw [Tryz.params4] at ht
        have hm : t ∈ [9, 29] := by simpa using Array.mem_of_getElem? ht
        have hall : ([9, 29].all fun u => !Tryz.prog.wantsStandIn u) = true := by kernel_rfl
        exact (show Tryz.prog.wantsStandIn t = false by simpa using List.all_eq_true.1 hall t hm)⟩)
    (by kernel_rfl)
#print axioms card
end Go.Proofs.YtnnidhjmakpaeaaGreatDoor.lawDecimalBack
