/- DateParse: Parse returns the specified date or error for any string of up to 60 bytes; what it accepts is the text of the result. -/
import Derived.Test.YtaolbfbnjbpljaaGreatDoorM2
import Derived.Test.YtaolbfbnjbpljaaGreatDoorC3
import Derived.Test.YtaolbfbnjbpljaaGreatDoorC4
import Derived.Test.YtaolbfbnjbpljaaGreatDoorC5
import Derived.Test.YtaolbfbnjbpljaaGreatDoorQ1
import Derived.Test.YtaolbfbnjbpljaaGreatDoorO
namespace Go.Proofs.YtaolbfbnjbpljaaGreatDoor
open Go.RowKit
attribute [local go_sem] Ext.cell Ext.frozen
attribute [local go_sem ↓] Go.wp_at_zero Go.wp_at_succ

set_option maxRecDepth 20000 in
set_option maxHeartbeats 8000000 in
theorem dateParse_walk (s : ByteArray) (w : World) (hs : s.size ≤ 9223372036854775807) (ht : Tab10 w) : Calls Tryz.prog 5 #[.string s] w fun e w' => e = .returned (.bool true) ∧ Below w.heap.size w w' := by
  have HA : Hid (∀ w1, Below w.heap.size w w1 → Calls Tryz.prog 6 #[] w1 fun e w' => e = .returned (.bool true) ∧ Below w1.heap.size w1 w') := fun w1 g => awake_any w1 (ht.on g)
  have HBR : Hid (Below w.heap.size w w) := Below.refl _ _
  by_cases h : 60 < s.size
  · have h1 : 60 < (s.size : Int) := by omega
    clear ht
    go_enter Tryz.func5, Tryz.ntmps5
    go_wp2_with fail
    refine (Calls.toExt (HA.out _ HBR.out)).mono ?_
    rintro e _ ⟨rfl, x1, rfl⟩
    go_wp2_with fail
    refine (Calls.toExt (HA.out _ x1.2)).mono ?_
    rintro e _ ⟨rfl, x2, rfl⟩
    go_wp2_with fail
    go_ret
    exact ⟨rfl, x1.2.trans (x2.2.mono x1.2.size)⟩
  · have h1 : ¬ 60 < (s.size : Int) := by omega
    have HP := Lib.hid (fun w => dparse_any s w (by omega))
    have HRP := Lib.hid (fun w => rparse_any s w (by omega))
    by_cases he : (parseV s.data.toList).2 = 0
    · obtain ⟨y, m, d, hv, hl, hp⟩ := parse_ok he
      have hbs : s = bs (txtD y m d) := by rw [← hl]; exact bs_of s
      have HT : Hid (∀ w2, Below w.heap.size w w2 → Calls Tryz.prog 15 #[.int .i64 ((num y m d : Int) - 25567)] w2 fun e w' => e = .returned (.string s) ∧ Below w2.heap.size w2 w') := fun w2 g => by
        have := text_any ((num y m d : Int) - 25567) w2 (ht.on g)
        rw [txtV_of hv, ← hbs] at this
        exact this
      rw [hp] at HP HRP
      clear hbs hl hp hv he ht
      generalize (num y m d : Int) - 25567 = n at *
      go_enter Tryz.func5, Tryz.ntmps5
      go_wp2_with fail
      refine (Calls.toExt (HA.out _ HBR.out)).mono ?_
      rintro e _ ⟨rfl, x1, rfl⟩
      go_wp2_with fail
      refine (Calls.toExt (HP.out _)).mono ?_
      rintro e _ ⟨rfl, x2, rfl⟩
      have HB2 := Lib.hid (x1.2.trans (x2.2.mono x1.2.size))
      go_wp2_with fail
      refine (Calls.toExt (HRP.out _)).mono ?_
      rintro e _ ⟨rfl, x3, rfl⟩
      have HB3 := Lib.hid (HB2.out.trans (x3.2.mono HB2.out.size))
      go_wp2_with fail
      refine (Calls.toExt (HT.out _ HB3.out)).mono ?_
      rintro e _ ⟨rfl, x4, rfl⟩
      have HB4 := Lib.hid (HB3.out.trans (x4.2.mono HB3.out.size))
      go_wp2_with fail
      go_ret
      exact ⟨rfl, HB4.out⟩
    · have he1 : (((parseV s.data.toList).2 : Int) == 0) = false := by simp; omega
      have he2 : ¬ ((parseV s.data.toList).2 : Int) = 0 := by omega
      clear he ht
      generalize ((parseV s.data.toList).2 : Int) = e0 at *
      generalize (parseV s.data.toList).1 = n at *
      go_enter Tryz.func5, Tryz.ntmps5
      go_wp2_with fail
      refine (Calls.toExt (HA.out _ HBR.out)).mono ?_
      rintro e _ ⟨rfl, x1, rfl⟩
      go_wp2_with fail
      refine (Calls.toExt (HP.out _)).mono ?_
      rintro e _ ⟨rfl, x2, rfl⟩
      have HB2 := Lib.hid (x1.2.trans (x2.2.mono x1.2.size))
      go_wp2_with fail
      refine (Calls.toExt (HRP.out _)).mono ?_
      rintro e _ ⟨rfl, x3, rfl⟩
      have HB3 := Lib.hid (HB2.out.trans (x3.2.mono HB2.out.size))
      go_wp2_with fail
      go_ret
      exact ⟨rfl, HB3.out⟩
end Go.Proofs.YtaolbfbnjbpljaaGreatDoor
namespace Go.Proofs.YtaolbfbnjbpljaaGreatDoor.lawDateParse
open Go.ChangeShapes Go.WideShapes Go.ChangeAt Go.RowKit Go.Joins
open Go.ChangeMaps (open_string shut_string)
set_option maxRecDepth 100000 in
theorem lifted (os : Os) (started : os.Started) (H : Type) (enc : TypeId × Value → H) :
    ReturnsInHanded {} Tryz.checked os 5 .any (fun w args => (Rows.dateParseSpec.pre enc Tryz.prog Tryz.f5 Rows.dateParseRow.domain false w args ∧ laidMetH Tryz.prog Rows.dateParseRow.laid w) ∧ sizedMet enc Tryz.prog Tryz.f5 (OpenSpec.ofChange Rows.dateParseSpec) false w args)
      (Rows.dateParseSpec.post enc Tryz.prog Tryz.f5 false true false false) := by
  refine returnsInHanded_of_change_and (C := Tryz.checked) (X := fun w _ => laidMetH Tryz.prog Rows.dateParseRow.laid w) (fun _ _ _ hh h => h.of_heap hh) own started (by kernel_rfl) Tryz.func5
    (ChangeSpec.witness_shaped (enc := enc) (C := Tryz.checked) (os := os) (X := fun w _ => laidMetH Tryz.prog Rows.dateParseRow.laid w) false (World.laidAll Tryz.prog os Rows.dateParseRow.laid) #[.string .empty] 8 (World.laidAll_os _ _ _)
      (World.shaped_of_ZipB (by kernel_rfl) (by kernel_rfl)) (by kernel_rfl) (by kernel_rfl) (by kernel_rfl)
      (by rw [MakeChecks.laidMetH_plain _ _ _ (by kernel_rfl)]; exact laidMet_laidAll _ (by kernel_rfl) (by kernel_rfl))) ?_
  intro W base args ds gs before hval0 hW _ _ hL _
  have hval : ∀ (j : Nat) t v, Tryz.f5.params[j]? = some t → args[j]? = some v → Value.okWide Tryz.prog W .any base t v := hval0
  have hW' := hW
  obtain ⟨p, q, hA0, hV, rfl, hfz, hnd⟩ := hW
  have hA : DataW.TrodAll enc Tryz.prog W 0 (fun _ => true) true Tryz.f5.params.toList args.toList ds p := hA0
  rw [Tryz.params5] at hA hval
  obtain ⟨v0, vs0, d0, ds0, p0, q0, hargs, rfl, rfl, h0, r0⟩ := trodAll_cons hA
  obtain ⟨rfl, rfl, rfl⟩ := trodAll_nil r0
  obtain rfl : args = #[v0] := by cases args; simp_all
  obtain ⟨rfl, rfl⟩ := trodVars_none hV
  obtain ⟨s0, rfl, rfl, rfl, hs0⟩ := open_string Tryz.underlying9 (hval 0 9 v0 rfl rfl) h0
  clear hA0 hval0
  refine (dateParse_walk s0 W (by unfold maxLen at hs0; omega) (tab10_of (by kernel_rfl) hL)).mono fun e W' ⟨he, bel⟩ => ?_
  subst he
  exact ⟨_, rfl, _, _, _, [], _, [], hW', trodAll_mk1 (shut_bool Tryz.underlying4 _), (trodAll_cons_mk (shut_string Tryz.underlying9 hs0) trodAll_mk0), rfl, bel.frame _, fun h => by cases h⟩

theorem proved : Rows.DateParseSaid :=
  OpenClaim.holds_of_wide 5 Tryz.f5 rfl rfl rfl rfl rfl rfl rfl ⟨rfl, rfl, rfl, rfl, rfl⟩ rfl rfl rfl rfl rfl (by kernel_rfl) Tryz.func5 (by kernel_rfl)
    (of_decide_eq_true (by kernel_rfl)) (by unfold Func.isWrapper; first | (rw [if_pos (by decide +kernel)]; kernel_rfl) | (rw [if_neg (by decide +kernel)]; exact ⟨rfl, rfl⟩))
    (fun os started H enc _ => lifted os started H enc)
theorem card : Rows.DateParseCardSaid :=
  Claim7.holds_tied_plain_at .later [] [.data, .data, .data, .data, .sentinel, .sentinel, .pinned] true (true, "3db465137fd69d102968c619fb423cdecd63e8bc0b1cbba07c9796f9e9176a9c") true proved (fun _ h => by cases h) (by kernel_rfl) (fun _ h => by cases h) dateParse_row_tie rfl ⟨rfl, rfl⟩ (by kernel_rfl) rfl
    (fun f fn hf hfn => by
      obtain rfl : f = 5 := Option.some.inj ((show Tryz.prog.funcNamed "calque/calquelaw18.DateParse" = some 5 by kernel_rfl).symm.trans hf) |>.symm
      obtain rfl : fn = Tryz.f5 := (Option.some.inj (Tryz.func5.symm.trans hfn)).symm
      exact ⟨by kernel_rfl, fun j t ht => by
        rw [Tryz.params5] at ht
        have hm : t ∈ [9] := by simpa using Array.mem_of_getElem? ht
        have hall : ([9].all fun u => !Tryz.prog.wantsStandIn u) = true := by kernel_rfl
        exact (show Tryz.prog.wantsStandIn t = false by simpa using List.all_eq_true.1 hall t hm)⟩)
    (by kernel_rfl)
#print axioms card
end Go.Proofs.YtaolbfbnjbpljaaGreatDoor.lawDateParse
