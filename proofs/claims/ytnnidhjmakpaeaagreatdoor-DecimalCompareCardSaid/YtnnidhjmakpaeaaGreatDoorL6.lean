/- DecimalCompare: Compare and Same return the specified results for any strings of up to 60 bytes; exchanging them negates the result. -/
import Derived.Test.YtnnidhjmakpaeaaGreatDoorW15
import Derived.Test.YtnnidhjmakpaeaaGreatDoorW23
import Derived.Test.YtnnidhjmakpaeaaGreatDoorW24
import Derived.Test.YtnnidhjmakpaeaaGreatDoorO
namespace Go.Proofs.YtnnidhjmakpaeaaGreatDoor
open Go.RowKit
attribute [local go_sem] Ext.cell Ext.frozen
attribute [local go_sem ↓] Go.wp_at_zero Go.wp_at_succ

theorem comp_cases (l m : List UInt8) : (compV l m = (0, 1) ∧ compV m l = (0, 1) ∧ sameV l m = (false, 1)) ∨ (compV l m = (-1, 0) ∧ compV m l = (1, 0) ∧ sameV l m = (false, 0)) ∨
    (compV l m = (0, 0) ∧ compV m l = (0, 0) ∧ sameV l m = (true, 0)) ∨ (compV l m = (1, 0) ∧ compV m l = (-1, 0) ∧ sameV l m = (false, 0)) := by
  cases h1 : dOk l with
  | false => left; unfold sameV; rw [compV_no1 h1, compV_no2 h1]; exact ⟨rfl, rfl, rfl⟩
  | true =>
    cases h2 : dOk m with
    | false => left; unfold sameV; rw [compV_no2 h2, compV_no1 h2]; exact ⟨rfl, rfl, rfl⟩
    | true =>
      right
      unfold sameV
      rw [compV_yes h1 h2, compV_yes h2 h1, cmpI_swap (mv l) (mv m)]
      have := cmpI_bd (mv l) (mv m)
      generalize cmpI (mv l) (mv m) = c at *
      have : c = -1 ∨ c = 0 ∨ c = 1 := by omega
      rcases this with h | h | h <;> subst h
      · exact .inl ⟨rfl, rfl, rfl⟩
      · exact .inr (.inl ⟨rfl, rfl, rfl⟩)
      · exact .inr (.inr ⟨rfl, rfl, rfl⟩)

set_option maxHeartbeats 2000000 in
theorem decimalCompare_walk (s t : ByteArray) (w : World) (hs : s.size ≤ 9223372036854775807) (ht : t.size ≤ 9223372036854775807) :
    Calls Tryz.prog 3 #[.string s, .string t] w fun e w' => e = .returned (.bool true) ∧ Below w.heap.size w w' := by
  have HA := Lib.hid awake_any
  by_cases hg : 60 < s.size
  · go_enter Tryz.func3, Tryz.ntmps3
    go_wp2_with fail
    refine (Calls.toExt (HA.out _)).mono ?_
    rintro e _ ⟨rfl, x0, rfl⟩
    go_wp2_with fail
    refine (Calls.toExt (HA.out _)).mono ?_
    rintro e _ ⟨rfl, x1, rfl⟩
    go_wp2_with fail
    go_ret
    exact ⟨rfl, by (show Bel w _; (repeat (first | exact Bel.refl _ | refine Bel.ext ?_ _ | refine Bel.alloc ?_ _ | refine Bel.drewN ?_ _ | refine Bel.drew ?_ | refine Bel.setCell ?_ _ _ ?_ | exact Nat.le_refl _ | (simp; done) | omega | (simp <;> omega))))⟩
  · by_cases hg2 : 60 < t.size
    · go_enter Tryz.func3, Tryz.ntmps3
      go_wp2_with fail
      refine (Calls.toExt (HA.out _)).mono ?_
      rintro e _ ⟨rfl, x0, rfl⟩
      go_wp2_with fail
      refine (Calls.toExt (HA.out _)).mono ?_
      rintro e _ ⟨rfl, x1, rfl⟩
      go_wp2_with fail
      go_ret
      exact ⟨rfl, by (show Bel w _; (repeat (first | exact Bel.refl _ | refine Bel.ext ?_ _ | refine Bel.alloc ?_ _ | refine Bel.drewN ?_ _ | refine Bel.drew ?_ | refine Bel.setCell ?_ _ _ ?_ | exact Nat.le_refl _ | (simp; done) | omega | (simp <;> omega))))⟩
    · have HC := Lib.hid (fun w => compare_any s t w (by omega) (by omega))
      have HR := Lib.hid (fun w => rcompare_any s t w (by omega) (by omega))
      have HD := Lib.hid (fun w => compare_any t s w (by omega) (by omega))
      have HS := Lib.hid (fun w => same_any s t w (by omega) (by omega))
      rcases comp_cases s.data.toList t.data.toList with ⟨h1, h2, h3⟩ | ⟨h1, h2, h3⟩ | ⟨h1, h2, h3⟩ | ⟨h1, h2, h3⟩
      all_goals
        rw [h1] at HC HR
        rw [h2] at HD
        rw [h3] at HS
        clear h1 h2 h3
        go_enter Tryz.func3, Tryz.ntmps3
        go_wp2_with fail
        refine (Calls.toExt (HA.out _)).mono ?_
        rintro e _ ⟨rfl, x0, rfl⟩
        go_wp2_with fail
        refine (Calls.toExt (HC.out _)).mono ?_
        rintro e _ ⟨rfl, x1, rfl⟩
        go_wp2_with fail
        refine (Calls.toExt (HR.out _)).mono ?_
        rintro e _ ⟨rfl, x2, rfl⟩
        go_wp2_with fail
        refine (Calls.toExt (HD.out _)).mono ?_
        rintro e _ ⟨rfl, x3, rfl⟩
        go_wp2_with fail
        refine (Calls.toExt (HS.out _)).mono ?_
        rintro e _ ⟨rfl, x4, rfl⟩
        go_wp2_with fail
        go_ret
        exact ⟨rfl, by (show Bel w _; (repeat (first | exact Bel.refl _ | refine Bel.ext ?_ _ | refine Bel.alloc ?_ _ | refine Bel.drewN ?_ _ | refine Bel.drew ?_ | refine Bel.setCell ?_ _ _ ?_ | exact Nat.le_refl _ | (simp; done) | omega | (simp <;> omega))))⟩
end Go.Proofs.YtnnidhjmakpaeaaGreatDoor
namespace Go.Proofs.YtnnidhjmakpaeaaGreatDoor.lawDecimalCompare
open Go.ChangeShapes Go.WideShapes Go.ChangeAt Go.RowKit Go.Joins
open Go.ChangeMaps (open_string shut_string)
set_option maxRecDepth 100000 in
theorem lifted (os : Os) (started : os.Started) (H : Type) (enc : TypeId × Value → H) :
    ReturnsInHanded {} Tryz.checked os 3 .any (fun w args => (Rows.decimalCompareSpec.pre enc Tryz.prog Tryz.f3 Rows.decimalCompareRow.domain false w args ∧ laidMetH Tryz.prog Rows.decimalCompareRow.laid w) ∧ sizedMet enc Tryz.prog Tryz.f3 (OpenSpec.ofChange Rows.decimalCompareSpec) false w args)
      (Rows.decimalCompareSpec.post enc Tryz.prog Tryz.f3 false true false false) := by
  refine returnsInHanded_of_change_and (C := Tryz.checked) (X := fun w _ => laidMetH Tryz.prog Rows.decimalCompareRow.laid w) (fun _ _ _ hh h => h.of_heap hh) own started (by kernel_rfl) Tryz.func3
    (ChangeSpec.witness_shaped (enc := enc) (C := Tryz.checked) (os := os) (X := fun w _ => laidMetH Tryz.prog Rows.decimalCompareRow.laid w) false (World.laidAll Tryz.prog os Rows.decimalCompareRow.laid) #[.string .empty, .string .empty] 8 (World.laidAll_os _ _ _)
      (World.shaped_of_ZipB (by kernel_rfl) (by kernel_rfl)) (by kernel_rfl) (by kernel_rfl) (by kernel_rfl)
      (by rw [MakeChecks.laidMetH_plain _ _ _ (by kernel_rfl)]; exact laidMet_laidAll _ (by kernel_rfl) (by kernel_rfl))) ?_
  intro W base args ds gs before hval0 hW _ _ hL _
  have hval : ∀ (j : Nat) t v, Tryz.f3.params[j]? = some t → args[j]? = some v → Value.okWide Tryz.prog W .any base t v := hval0
  have hW' := hW
  obtain ⟨p, q, hA0, hV, rfl, hfz, hnd⟩ := hW
  have hA : DataW.TrodAll enc Tryz.prog W 0 (fun _ => true) true Tryz.f3.params.toList args.toList ds p := hA0
  rw [Tryz.params3] at hA hval
  obtain ⟨v0, vs0, d0, ds0, p0, q0, hargs, rfl, rfl, h0, r0⟩ := trodAll_cons hA
  obtain ⟨v1, vs1, d1, ds1, p1, q1, rfl, rfl, rfl, h1, r1⟩ := trodAll_cons r0
  obtain ⟨rfl, rfl, rfl⟩ := trodAll_nil r1
  obtain rfl : args = #[v0, v1] := by cases args; simp_all
  obtain ⟨rfl, rfl⟩ := trodVars_none hV
  obtain ⟨s0, rfl, rfl, rfl, hs0⟩ := open_string Tryz.underlying9 (hval 0 9 v0 rfl rfl) h0
  obtain ⟨s1, rfl, rfl, rfl, hs1⟩ := open_string Tryz.underlying9 (hval 1 9 v1 rfl rfl) h1
  clear hA0 hval0
  refine (decimalCompare_walk s0 s1 W (by unfold maxLen at hs0; omega) (by unfold maxLen at hs1; omega)).mono fun e W' ⟨he, bel⟩ => ?_
  subst he
  exact ⟨_, rfl, _, _, _, [], _, [], hW', trodAll_mk1 (shut_bool Tryz.underlying4 _), (trodAll_cons_mk (shut_string Tryz.underlying9 hs0) (trodAll_cons_mk (shut_string Tryz.underlying9 hs1) trodAll_mk0)), rfl, bel.frame _, fun h => by cases h⟩

theorem proved : Rows.DecimalCompareSaid :=
  OpenClaim.holds_of_wide 3 Tryz.f3 rfl rfl rfl rfl rfl rfl rfl ⟨rfl, rfl, rfl, rfl, rfl⟩ rfl rfl rfl rfl rfl (by kernel_rfl) Tryz.func3 (by kernel_rfl)
    (of_decide_eq_true (by kernel_rfl)) (by unfold Func.isWrapper; first | (rw [if_pos (by decide +kernel)]; kernel_rfl) | (rw [if_neg (by decide +kernel)]; exact ⟨rfl, rfl⟩))
    (fun os started H enc _ => lifted os started H enc)
theorem card : Rows.DecimalCompareCardSaid :=
  Claim7.holds_tied_plain_at .later [] [.data, .data, .data, .data, .sentinel, .sentinel, .pinned] true (true, "6d730b52153a4e0983bd20d12ff5f2b1e61063822b8ac0e74c71fbd9cc71914c") true proved (fun _ h => by cases h) (by kernel_rfl) (fun _ h => by cases h) decimalCompare_row_tie rfl ⟨rfl, rfl⟩ (by kernel_rfl) rfl
    (fun f fn hf hfn => by
      obtain rfl : f = 3 := Option.some.inj ((show Tryz.prog.funcNamed "calque/calquelaw07.DecimalCompare" = some 3 by kernel_rfl).symm.trans hf) |>.symm
      obtain rfl : fn = Tryz.f3 := (Option.some.inj (Tryz.func3.symm.trans hfn)).symm
      exact ⟨by kernel_rfl, fun j t ht => by
        rw [Tryz.params3] at ht
        have hm : t ∈ [9, 9] := by simpa using Array.mem_of_getElem? ht
        have hall : ([9, 9].all fun u => !Tryz.prog.wantsStandIn u) = true := by kernel_rfl
        exact (show Tryz.prog.wantsStandIn t = false by simpa using List.all_eq_true.1 hall t hm)⟩)
    (by kernel_rfl)
#print axioms card
end Go.Proofs.YtnnidhjmakpaeaaGreatDoor.lawDecimalCompare
