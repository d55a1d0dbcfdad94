/- DateOf: Of returns the specified date or error for any numbers, and Civil the day again. -/
import Derived.Test.YtaolbfbnjbpljaaDoorM2
import Derived.Test.YtaolbfbnjbpljaaDoorE5
import Derived.Test.YtaolbfbnjbpljaaDoorQ1
import Derived.Test.YtaolbfbnjbpljaaDoorO
namespace Go.Proofs.YtaolbfbnjbpljaaDoor
open Go.RowKit
attribute [local go_sem] Ext.cell Ext.frozen
attribute [local go_sem ↓] Go.wp_at_zero Go.wp_at_succ

theorem of_cases (y m d : Int) : ofV y m d = (0, 2) ∨ ∃ n : Int, ofV y m d = (n, 0) ∧ civV n = (y, m, d, 0) := by
  by_cases h : vldI y m d
  · right
    have h1 := h
    unfold vldI at h1
    obtain ⟨a, rfl⟩ : ∃ n : Nat, y = n := ⟨y.toNat, by omega⟩
    obtain ⟨b, rfl⟩ : ∃ n : Nat, m = n := ⟨m.toNat, by omega⟩
    obtain ⟨c, rfl⟩ : ∃ n : Nat, d = n := ⟨d.toNat, by omega⟩
    exact ⟨_, ofV_nat (vldI_nat.1 h), civV_of (vldI_nat.1 h)⟩
  · exact .inl (ofV_no h)
set_option maxHeartbeats 4000000 in
theorem dateOf_walk (y m d : Int) (w : World) (ht : Tab10 w) : Calls Tryd.prog 4 #[.int .i64 y, .int .i64 m, .int .i64 d] w fun e w' => e = .returned (.bool true) ∧ Below w.heap.size w w' := by
  have HA := Lib.hid (awake_any w ht)
  have HO := Lib.hid (fun w => of_any y m d w)
  have HR := Lib.hid (fun w => rof_any y m d w)
  clear ht
  rcases of_cases y m d with h | ⟨n, h, hc⟩ <;> rw [h] at HO HR
  · go_enter Tryd.func4, Tryd.ntmps4
    go_wp2_with fail
    refine HA.out.mono ?_
    rintro e w1 ⟨rfl, hb1⟩
    have HB1 := Lib.hid hb1
    clear hb1
    go_wp2_with fail
    refine (HO.out _).mono ?_
    rintro e w2 ⟨rfl, hb2⟩
    have HB2 := Lib.hid hb2
    clear hb2
    go_wp2_with fail
    refine (HR.out _).mono ?_
    rintro e w3 ⟨rfl, hb3⟩
    have HB3 := Lib.hid hb3
    clear hb3
    go_wp2_with fail
    go_ret
    have z1 := HB1.out.size
    have z2 := HB2.out.size
    exact ⟨rfl, (HB1.out.trans (HB2.out.mono z1)).trans (HB3.out.mono (by omega))⟩
  · have HC := Lib.hid (fun w => civil_any n w)
    rw [hc] at HC
    clear h hc
    go_enter Tryd.func4, Tryd.ntmps4
    go_wp2_with fail
    refine HA.out.mono ?_
    rintro e w1 ⟨rfl, hb1⟩
    have HB1 := Lib.hid hb1
    clear hb1
    go_wp2_with fail
    refine (HO.out _).mono ?_
    rintro e w2 ⟨rfl, hb2⟩
    have HB2 := Lib.hid hb2
    clear hb2
    go_wp2_with fail
    refine (HR.out _).mono ?_
    rintro e w3 ⟨rfl, hb3⟩
    have HB3 := Lib.hid hb3
    clear hb3
    go_wp2_with fail
    refine (HC.out _).mono ?_
    rintro e _ ⟨rfl, rfl⟩
    go_wp2_with fail
    go_ret
    have z1 := HB1.out.size
    have z2 := HB2.out.size
    exact ⟨rfl, (HB1.out.trans (HB2.out.mono z1)).trans (HB3.out.mono (by omega))⟩
end Go.Proofs.YtaolbfbnjbpljaaDoor
namespace Go.Proofs.YtaolbfbnjbpljaaDoor.lawDateOf
open Go.ChangeShapes Go.WideShapes Go.ChangeAt Go.RowKit Go.Joins
open Go.ChangeMaps (open_string shut_string)
set_option maxRecDepth 100000 in
theorem lifted (os : Os) (started : os.Started) (H : Type) (enc : TypeId × Value → H) :
    ReturnsInHanded {} Tryd.checked os 4 .any (fun w args => (Rows.dateOfSpec.pre enc Tryd.prog Tryd.f4 Rows.dateOfRow.domain false w args ∧ laidMetH Tryd.prog Rows.dateOfRow.laid w) ∧ sizedMet enc Tryd.prog Tryd.f4 (OpenSpec.ofChange Rows.dateOfSpec) false w args)
      (Rows.dateOfSpec.post enc Tryd.prog Tryd.f4 false true false false) := by
  refine returnsInHanded_of_change_and (C := Tryd.checked) (X := fun w _ => laidMetH Tryd.prog Rows.dateOfRow.laid w) (fun _ _ _ hh h => h.of_heap hh) own started (by kernel_rfl) Tryd.func4
    (ChangeSpec.witness_shaped (enc := enc) (C := Tryd.checked) (os := os) (X := fun w _ => laidMetH Tryd.prog Rows.dateOfRow.laid w) false (World.laidAll Tryd.prog os Rows.dateOfRow.laid) #[.int .i64 0, .int .i64 0, .int .i64 0] 8 (World.laidAll_os _ _ _)
      (World.shaped_of_ZipB (by kernel_rfl) (by kernel_rfl)) (by kernel_rfl) (by kernel_rfl) (by kernel_rfl)
      (by rw [MakeChecks.laidMetH_plain _ _ _ (by kernel_rfl)]; exact laidMet_laidAll _ (by kernel_rfl) (by kernel_rfl))) ?_
  intro W base args ds gs before hval0 hW _ _ hL _
  have hval : ∀ (j : Nat) t v, Tryd.f4.params[j]? = some t → args[j]? = some v → Value.okWide Tryd.prog W .any base t v := hval0
  have hW' := hW
  obtain ⟨p, q, hA0, hV, rfl, hfz, hnd⟩ := hW
  have hA : DataW.TrodAll enc Tryd.prog W 0 (fun _ => true) true Tryd.f4.params.toList args.toList ds p := hA0
  rw [Tryd.params4] at hA hval
  obtain ⟨v0, vs0, d0, ds0, p0, q0, hargs, rfl, rfl, h0, r0⟩ := trodAll_cons hA
  obtain ⟨v1, vs1, d1, ds1, p1, q1, rfl, rfl, rfl, h1, r1⟩ := trodAll_cons r0
  obtain ⟨v2, vs2, d2, ds2, p2, q2, rfl, rfl, rfl, h2, r2⟩ := trodAll_cons r1
  obtain ⟨rfl, rfl, rfl⟩ := trodAll_nil r2
  obtain rfl : args = #[v0, v1, v2] := by cases args; simp_all
  obtain ⟨rfl, rfl⟩ := trodVars_none hV
  obtain ⟨z0, rfl, rfl, rfl, hz0⟩ := open_int Tryd.underlying3 (hval 0 3 v0 rfl rfl) h0
  obtain ⟨z1, rfl, rfl, rfl, hz1⟩ := open_int Tryd.underlying3 (hval 1 3 v1 rfl rfl) h1
  obtain ⟨z2, rfl, rfl, rfl, hz2⟩ := open_int Tryd.underlying3 (hval 2 3 v2 rfl rfl) h2
  clear hA0 hval0
  refine (dateOf_walk z0 z1 z2 W (tab10_of (by kernel_rfl) hL)).mono fun e W' ⟨he, bel⟩ => ?_
  subst he
  exact ⟨_, rfl, _, _, _, [], _, [], hW', trodAll_mk1 (shut_bool Tryd.underlying4 _), (trodAll_cons_mk (shut_int Tryd.underlying3 hz0) (trodAll_cons_mk (shut_int Tryd.underlying3 hz1) (trodAll_cons_mk (shut_int Tryd.underlying3 hz2) trodAll_mk0))), rfl, bel.frame _, fun h => by cases h⟩

theorem proved : Rows.DateOfSaid :=
  OpenClaim.holds_of_wide 4 Tryd.f4 rfl rfl rfl rfl rfl rfl rfl ⟨rfl, rfl, rfl, rfl, rfl⟩ rfl rfl rfl rfl rfl (by kernel_rfl) Tryd.func4 (by kernel_rfl)
    (of_decide_eq_true (by kernel_rfl)) (by unfold Func.isWrapper; first | (rw [if_pos (by decide +kernel)]; kernel_rfl) | (rw [if_neg (by decide +kernel)]; exact ⟨rfl, rfl⟩))
    (fun os started H enc _ => lifted os started H enc)
theorem card : Rows.DateOfCardSaid :=
  Claim7.holds_tied_plain_at .later [] [.data, .data, .data, .data, .pinned] true (true, "187b34c1a1a2553ab751f702c962cfae9e185c0428888ad6df30cb1be956878b") false proved (fun _ h => by cases h) (by kernel_rfl) (fun _ h => by cases h) dateOf_row_tie rfl ⟨rfl, rfl⟩ (by kernel_rfl) rfl
    (fun f fn hf hfn => by
      obtain rfl : f = 4 := Option.some.inj ((show Tryd.prog.funcNamed "calque/calquelaw18.DateOf" = some 4 by kernel_rfl).symm.trans hf) |>.symm
      obtain rfl : fn = Tryd.f4 := (Option.some.inj (Tryd.func4.symm.trans hfn)).symm
      exact ⟨by kernel_rfl, fun j t ht => by
        rw [Tryd.params4] at ht
        have hm : t ∈ [3, 3, 3] := by simpa using Array.mem_of_getElem? ht
        have hall : ([3, 3, 3].all fun u => !Tryd.prog.wantsStandIn u) = true := by kernel_rfl
        exact (show Tryd.prog.wantsStandIn t = false by simpa using List.all_eq_true.1 hall t hm)⟩)
    (by kernel_rfl)
#print axioms card
end Go.Proofs.YtaolbfbnjbpljaaDoor.lawDateOf
