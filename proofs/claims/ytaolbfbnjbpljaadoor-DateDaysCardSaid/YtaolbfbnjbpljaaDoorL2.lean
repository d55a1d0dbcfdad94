/- DateDays: The days of the week follow each other, and a later date has a greater text. -/
import Derived.Test.YtaolbfbnjbpljaaDoorM2
import Derived.Test.YtaolbfbnjbpljaaDoorE5
import Derived.Test.YtaolbfbnjbpljaaDoorQ1
import Derived.Test.YtaolbfbnjbpljaaDoorO
namespace Go.Proofs.YtaolbfbnjbpljaaDoor
open Go.RowKit
attribute [local go_sem] Ext.cell Ext.frozen
attribute [local go_sem ↓] Go.wp_at_zero Go.wp_at_succ

theorem less_self (l : List UInt8) : Op.bytesLess l l = false := by
  induction l with
  | nil => rfl
  | cons a l ih => rw [Op.bytesLess]; simp [ih]
theorem txt_order {n k : Int} (h1 : -25567 ≤ n) (h2 : n ≤ k) (h3 : k ≤ 84005) : Op.bytesLess (bs (txtV k)).toList (bs (txtV n)).toList = false ∧ (n ≠ k → ((bs (txtV n)).toList == (bs (txtV k)).toList) = false ∧ Op.bytesLess (bs (txtV n)).toList (bs (txtV k)).toList = true) := by
  obtain ⟨y, m, d, hv, hn, _⟩ := civV_ok (n := n) (by omega)
  obtain ⟨y', m', d', hv', hk, _⟩ := civV_ok (n := k) (by omega)
  rw [bs_toList, bs_toList, hn, hk, txtV_of hv, txtV_of hv']
  obtain ⟨a1, a2, a3⟩ := vld_bd hv
  obtain ⟨b1, b2, b3⟩ := vld_bd hv'
  refine ⟨?_, fun hne => ?_⟩
  · rw [txt_less b1 b2 b3 a1 a2 a3, decide_eq_false_iff_not, ← num_lt_iff hv' hv]
    omega
  · constructor
    · rw [beq_eq_false_iff_ne]
      intro e
      obtain ⟨rfl, rfl, rfl⟩ := txt_inj a1 a2 a3 b1 b2 b3 e
      exact hne rfl
    · rw [txt_less a1 a2 a3 b1 b2 b3, decide_eq_true_eq, ← num_lt_iff hv hv']
      omega
set_option maxRecDepth 20000 in
set_option maxHeartbeats 8000000 in
theorem dateDays_walk (n b : Int) (w : World) (ht : Tab10 w) (hnw : (Lit.int .i64 n).wf = true) (hbw : (Lit.int .u16 b).wf = true) : Calls Tryd.prog 6 #[.int .i64 n, .int .u16 b] w fun e w' => e = .returned (.bool true) ∧ Below w.heap.size w w' := by
  obtain ⟨hn1, hn2⟩ : -9223372036854775808 ≤ n ∧ n ≤ 9223372036854775807 := by simpa [Lit.wf, IntKind.min, IntKind.max, IntKind.signed, IntKind.bits] using hnw
  obtain ⟨hb1, hb2⟩ : 0 ≤ b ∧ b ≤ 65535 := by simpa [Lit.wf, IntKind.min, IntKind.max, IntKind.signed, IntKind.bits] using hbw
  clear hnw hbw
  have HA := Lib.hid (awake_any w ht)
  have HV := Lib.hid (fun w => rvalid_any n w)
  have HU := Lib.hid (fun w => rvalid_any (n + b) w)
  by_cases h : -25567 ≤ n ∧ n ≤ 84005
  · obtain ⟨h1, h2⟩ := h
    have d1 : decide (-25567 ≤ n) = true := by simp; omega
    have d2 : decide (n ≤ 84005) = true := by simp; omega
    rw [d1, d2] at HV
    have d3 : decide (-25567 ≤ n + b) = true := by simp; omega
    rw [d3] at HU
    clear d1 d2 d3
    by_cases h3 : n + b ≤ 84005
    · have d4 : decide (n + b ≤ 84005) = true := by simp; omega
      rw [d4] at HU
      clear d4
      have HT : Hid (∀ w1 w2, Below w.heap.size w w1 → Below w1.heap.size w1 w2 → Calls Tryd.prog 24 #[.int .i64 n] w2 fun e w' => e = .returned (.string (bs (txtV n))) ∧ Below w2.heap.size w2 w') := fun w1 w2 g1 g2 => text_any n w2 ((ht.on g1).on g2)
      have HS : Hid (∀ w1 w2, Below w.heap.size w w1 → Below w1.heap.size w1 w2 → Calls Tryd.prog 24 #[.int .i64 (n + b)] w2 fun e w' => e = .returned (.string (bs (txtV (n + b)))) ∧ Below w2.heap.size w2 w') := fun w1 w2 g1 g2 => text_any (n + b) w2 ((ht.on g1).on g2)
      have HW := Lib.hid (fun w => weekday_yes n w h1 h2)
      have HX := Lib.hid (fun w => weekday_yes (n + b) w (by omega) h3)
      have hWV : ((n + 25567) % 7 + b) % 7 = (n + b + 25567) % 7 := by omega
      have hW0 : 0 ≤ (n + 25567) % 7 := by omega
      have hW6 : (n + 25567) % 7 ≤ 6 := by omega
      obtain ⟨o1, o2⟩ := txt_order h1 (show n ≤ n + b by omega) h3
      generalize (n + 25567) % 7 = W at *
      generalize (n + b + 25567) % 7 = V at *
      clear ht
      by_cases h0 : b = 0
      · subst h0
        rw [Int.add_zero] at HU HS HX o1 o2
        clear o2
        generalize bs (txtV n) = A at *
        go_enter Tryd.func6, Tryd.ntmps6
        go_wp2_with fail
        refine HA.out.mono ?_
        rintro e w1 ⟨rfl, hb1⟩
        have HB1 := Lib.hid hb1
        have z1 := hb1.size
        clear hb1
        go_wp2_with fail
        refine (HV.out _).mono ?_
        rintro e _ ⟨rfl, rfl⟩
        go_wp2_with fail
        refine (HU.out _).mono ?_
        rintro e _ ⟨rfl, rfl⟩
        go_wp2_with fail
        refine (HW.out _).mono ?_
        rintro e _ ⟨rfl, rfl⟩
        go_wp2_with fail
        refine (HX.out _).mono ?_
        rintro e _ ⟨rfl, rfl⟩
        go_wp2_with fail
        have HTn : Hid (∀ x : Ext w1, Calls Tryd.prog 24 #[.int .i64 n] x.1 fun e w' => e = .returned (.string A) ∧ Below x.1.heap.size x.1 w') := fun x => HT.out w1 x.1 HB1.out x.2
        have HTk : Hid (∀ x : Ext w1, Calls Tryd.prog 24 #[.int .i64 n] x.1 fun e w' => e = .returned (.string A) ∧ Below x.1.heap.size x.1 w') := fun x => HS.out w1 x.1 HB1.out x.2
        refine (Calls.ext (e := ⟨w1, Below.refl _ _⟩) (HTn.out ⟨w1, Below.refl _ _⟩)).mono ?_
        rintro e _ ⟨rfl, x1, rfl⟩
        go_wp2_with fail
        refine (Calls.ext (HTk.out x1)).mono ?_
        rintro e _ ⟨rfl, x2, rfl⟩
        go_wp2_with fail
        refine (Calls.ext (HTn.out x2)).mono ?_
        rintro e _ ⟨rfl, x3, rfl⟩
        go_wp2_with fail
        refine (Calls.ext (HTk.out x3)).mono ?_
        rintro e _ ⟨rfl, X9, rfl⟩
        have HX9 := Lib.hid X9.2
        go_wp2_with fail
        go_ret
        exact ⟨rfl, HB1.out.trans (HX9.out.mono z1)⟩
      · obtain ⟨o3, o4⟩ := o2 (by omega)
        have h00 : (b == 0) = false := by simp; omega
        have h01 : decide (b = 0) = false := by simp; omega
        clear o2
        generalize bs (txtV n) = A at *
        generalize bs (txtV (n + b)) = B at *
        go_enter Tryd.func6, Tryd.ntmps6
        go_wp2_with fail
        refine HA.out.mono ?_
        rintro e w1 ⟨rfl, hb1⟩
        have HB1 := Lib.hid hb1
        have z1 := hb1.size
        clear hb1
        go_wp2_with fail
        refine (HV.out _).mono ?_
        rintro e _ ⟨rfl, rfl⟩
        go_wp2_with fail
        refine (HU.out _).mono ?_
        rintro e _ ⟨rfl, rfl⟩
        go_wp2_with fail
        refine (HW.out _).mono ?_
        rintro e _ ⟨rfl, rfl⟩
        go_wp2_with fail
        refine (HX.out _).mono ?_
        rintro e _ ⟨rfl, rfl⟩
        go_wp2_with fail
        have HTn : Hid (∀ x : Ext w1, Calls Tryd.prog 24 #[.int .i64 n] x.1 fun e w' => e = .returned (.string A) ∧ Below x.1.heap.size x.1 w') := fun x => HT.out w1 x.1 HB1.out x.2
        have HTk : Hid (∀ x : Ext w1, Calls Tryd.prog 24 #[.int .i64 (n + b)] x.1 fun e w' => e = .returned (.string B) ∧ Below x.1.heap.size x.1 w') := fun x => HS.out w1 x.1 HB1.out x.2
        refine (Calls.ext (e := ⟨w1, Below.refl _ _⟩) (HTn.out ⟨w1, Below.refl _ _⟩)).mono ?_
        rintro e _ ⟨rfl, x1, rfl⟩
        go_wp2_with fail
        refine (Calls.ext (HTk.out x1)).mono ?_
        rintro e _ ⟨rfl, x2, rfl⟩
        go_wp2_with fail
        refine (Calls.ext (HTn.out x2)).mono ?_
        rintro e _ ⟨rfl, x3, rfl⟩
        go_wp2_with fail
        refine (Calls.ext (HTk.out x3)).mono ?_
        rintro e _ ⟨rfl, X9, rfl⟩
        have HX9 := Lib.hid X9.2
        go_wp2_with fail
        go_ret
        exact ⟨rfl, HB1.out.trans (HX9.out.mono z1)⟩
    · have d4 : decide (n + b ≤ 84005) = false := by simp; omega
      rw [d4] at HU
      clear d4
      go_enter Tryd.func6, Tryd.ntmps6
      go_wp2_with fail
      refine HA.out.mono ?_
      rintro e w1 ⟨rfl, hb1⟩
      have HB1 := Lib.hid hb1
      have z1 := hb1.size
      clear hb1
      go_wp2_with fail
      refine (HV.out _).mono ?_
      rintro e _ ⟨rfl, rfl⟩
      go_wp2_with fail
      refine (HU.out _).mono ?_
      rintro e _ ⟨rfl, rfl⟩
      go_wp2_with fail
      go_ret
      exact ⟨rfl, HB1.out⟩
  · have hf : (decide (-25567 ≤ n) && decide (n ≤ 84005)) = false := by
      rw [Bool.and_eq_false_iff, decide_eq_false_iff_not, decide_eq_false_iff_not]; omega
    rw [hf] at HV
    clear hf ht
    by_cases ho : n + b ≤ 9223372036854775807
    · go_enter Tryd.func6, Tryd.ntmps6
      go_wp2_with fail
      refine HA.out.mono ?_
      rintro e w1 ⟨rfl, hb1⟩
      have HB1 := Lib.hid hb1
      have z1 := hb1.size
      clear hb1
      go_wp2_with fail
      refine (HV.out _).mono ?_
      rintro e _ ⟨rfl, rfl⟩
      go_wp2_with fail
      go_ret
      exact ⟨rfl, HB1.out⟩
    · go_enter Tryd.func6, Tryd.ntmps6
      go_wp2_with fail
      refine HA.out.mono ?_
      rintro e w1 ⟨rfl, hb1⟩
      have HB1 := Lib.hid hb1
      have z1 := hb1.size
      clear hb1
      go_wp2_with fail
      refine (HV.out _).mono ?_
      rintro e _ ⟨rfl, rfl⟩
      go_wp2_with fail
      go_ret
      exact ⟨rfl, HB1.out⟩
end Go.Proofs.YtaolbfbnjbpljaaDoor
namespace Go.Proofs.YtaolbfbnjbpljaaDoor.lawDateDays
open Go.ChangeShapes Go.WideShapes Go.ChangeAt Go.RowKit Go.Joins
open Go.ChangeMaps (open_string shut_string)
set_option maxRecDepth 100000 in
theorem lifted (os : Os) (started : os.Started) (H : Type) (enc : TypeId × Value → H) :
    ReturnsInHanded {} Tryd.checked os 6 .any (fun w args => (Rows.dateDaysSpec.pre enc Tryd.prog Tryd.f6 Rows.dateDaysRow.domain false w args ∧ laidMetH Tryd.prog Rows.dateDaysRow.laid w) ∧ sizedMet enc Tryd.prog Tryd.f6 (OpenSpec.ofChange Rows.dateDaysSpec) false w args)
      (Rows.dateDaysSpec.post enc Tryd.prog Tryd.f6 false true false false) := by
  refine returnsInHanded_of_change_and (C := Tryd.checked) (X := fun w _ => laidMetH Tryd.prog Rows.dateDaysRow.laid w) (fun _ _ _ hh h => h.of_heap hh) own started (by kernel_rfl) Tryd.func6
    (ChangeSpec.witness_shaped (enc := enc) (C := Tryd.checked) (os := os) (X := fun w _ => laidMetH Tryd.prog Rows.dateDaysRow.laid w) false (World.laidAll Tryd.prog os Rows.dateDaysRow.laid) #[.int .i64 0, .int .u16 0] 8 (World.laidAll_os _ _ _)
      (World.shaped_of_ZipB (by kernel_rfl) (by kernel_rfl)) (by kernel_rfl) (by kernel_rfl) (by kernel_rfl)
      (by rw [MakeChecks.laidMetH_plain _ _ _ (by kernel_rfl)]; exact laidMet_laidAll _ (by kernel_rfl) (by kernel_rfl))) ?_
  intro W base args ds gs before hval0 hW _ _ hL _
  have hval : ∀ (j : Nat) t v, Tryd.f6.params[j]? = some t → args[j]? = some v → Value.okWide Tryd.prog W .any base t v := hval0
  have hW' := hW
  obtain ⟨p, q, hA0, hV, rfl, hfz, hnd⟩ := hW
  have hA : DataW.TrodAll enc Tryd.prog W 0 (fun _ => true) true Tryd.f6.params.toList args.toList ds p := hA0
  rw [Tryd.params6] at hA hval
  obtain ⟨v0, vs0, d0, ds0, p0, q0, hargs, rfl, rfl, h0, r0⟩ := trodAll_cons hA
  obtain ⟨v1, vs1, d1, ds1, p1, q1, rfl, rfl, rfl, h1, r1⟩ := trodAll_cons r0
  obtain ⟨rfl, rfl, rfl⟩ := trodAll_nil r1
  obtain rfl : args = #[v0, v1] := by cases args; simp_all
  obtain ⟨rfl, rfl⟩ := trodVars_none hV
  obtain ⟨z0, rfl, rfl, rfl, hz0⟩ := open_int Tryd.underlying3 (hval 0 3 v0 rfl rfl) h0
  obtain ⟨z1, rfl, rfl, rfl, hz1⟩ := open_int Tryd.underlying41 (hval 1 41 v1 rfl rfl) h1
  clear hA0 hval0
  refine (dateDays_walk z0 z1 W (tab10_of (by kernel_rfl) hL) hz0 hz1).mono fun e W' ⟨he, bel⟩ => ?_
  subst he
  exact ⟨_, rfl, _, _, _, [], _, [], hW', trodAll_mk1 (shut_bool Tryd.underlying4 _), (trodAll_cons_mk (shut_int Tryd.underlying3 hz0) (trodAll_cons_mk (shut_int Tryd.underlying41 hz1) trodAll_mk0)), rfl, bel.frame _, fun h => by cases h⟩

theorem proved : Rows.DateDaysSaid :=
  OpenClaim.holds_of_wide 6 Tryd.f6 rfl rfl rfl rfl rfl rfl rfl ⟨rfl, rfl, rfl, rfl, rfl⟩ rfl rfl rfl rfl rfl (by kernel_rfl) Tryd.func6 (by kernel_rfl)
    (of_decide_eq_true (by kernel_rfl)) (by unfold Func.isWrapper; first | (rw [if_pos (by decide +kernel)]; kernel_rfl) | (rw [if_neg (by decide +kernel)]; exact ⟨rfl, rfl⟩))
    (fun os started H enc _ => lifted os started H enc)
theorem card : Rows.DateDaysCardSaid :=
  Claim7.holds_tied_plain_at .later [] [.data, .data, .data, .data, .pinned] true (true, "187b34c1a1a2553ab751f702c962cfae9e185c0428888ad6df30cb1be956878b") false proved (fun _ h => by cases h) (by kernel_rfl) (fun _ h => by cases h) dateDays_row_tie rfl ⟨rfl, rfl⟩ (by kernel_rfl) rfl
    (fun f fn hf hfn => by
      obtain rfl : f = 6 := Option.some.inj ((show Tryd.prog.funcNamed "calque/calquelaw18.DateDays" = some 6 by kernel_rfl).symm.trans hf) |>.symm
      obtain rfl : fn = Tryd.f6 := (Option.some.inj (Tryd.func6.symm.trans hfn)).symm
      exact ⟨by kernel_rfl, fun j t ht => by
        rw [Tryd.params6] at ht
        have hm : t ∈ [3, 41] := by simpa using Array.mem_of_getElem? ht
        have hall : ([3, 41].all fun u => !Tryd.prog.wantsStandIn u) = true := by kernel_rfl
        exact (show Tryd.prog.wantsStandIn t = false by simpa using List.all_eq_true.1 hall t hm)⟩)
    (by kernel_rfl)
#print axioms card
end Go.Proofs.YtaolbfbnjbpljaaDoor.lawDateDays
