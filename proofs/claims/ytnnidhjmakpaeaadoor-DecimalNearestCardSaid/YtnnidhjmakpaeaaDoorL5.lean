/- DecimalNearest: a rounded number differs by at most half a unit of its last digit, has exactly the digits that were asked for, and rounding it again changes nothing; whole parts of up to 8 digits. -/
import Derived.Test.YtnnidhjmakpaeaaDoorW15
import Derived.Test.YtnnidhjmakpaeaaDoorW19B
import Derived.Test.YtnnidhjmakpaeaaDoorW25
import Derived.Test.YtnnidhjmakpaeaaDoorP9
import Derived.Test.YtnnidhjmakpaeaaDoorO
namespace Go.Proofs.YtnnidhjmakpaeaaDoor
open Go.RowKit
attribute [local go_sem] Ext.cell Ext.frozen
attribute [local go_sem ↓] Go.wp_at_zero Go.wp_at_succ

theorem bs_nil : bs [] = ⟨#[]⟩ := rfl
theorem ok_size {s : ByteArray} (h : dOk s.data.toList = true) : s.size ≤ 23 := by have := dOk_size h; rw [size_len] at this; exact this
theorem milV_mv {l : List UInt8} (h : (milV l).2 = true) : milV l = (mv l, true) ∧ -1000000000000000 < mv l ∧ mv l < 1000000000000000 := by
  unfold milV at h ⊢
  split
  · rename_i hc
    simp only [Bool.and_eq_true, decide_eq_true_eq] at hc
    have := mag_lt hc.1 hc.2
    refine ⟨rfl, ?_⟩
    unfold mv
    split <;> omega
  · rename_i hc
    rw [if_neg hc] at h
    cases h
theorem near_of {l r : List UInt8} {k : Nat} (h : mv r = (if dNeg l then -((rnd (10 ^ (6 - k)) (mag l) : Nat) : Int) else ((rnd (10 ^ (6 - k)) (mag l) : Nat) : Int))) :
    2 * (mv r - mv l) ≤ ((10 ^ (6 - k) : Nat) : Int) ∧ -(2 * (mv r - mv l)) ≤ ((10 ^ (6 - k) : Nat) : Int) := by
  have hn := rnd_near (m := mag l) (pow_pos10 (6 - k))
  rw [h]
  unfold mv
  generalize rnd (10 ^ (6 - k)) (mag l) = q at *
  generalize 10 ^ (6 - k) = u at *
  split <;> omega
theorem pow_step {j : Nat} (h : j < 6) : ((10 ^ (6 - j) : Nat) : Int) / 10 = ((10 ^ (6 - (j + 1)) : Nat) : Int) := by
  obtain ⟨i, hi⟩ : ∃ i, 6 - j = i + 1 := ⟨5 - j, by omega⟩
  rw [hi, show 6 - (j + 1) = i by omega, Nat.pow_succ]
  omega
theorem pow_bd (j : Nat) : 1 ≤ ((10 ^ (6 - j) : Nat) : Int) ∧ ((10 ^ (6 - j) : Nat) : Int) ≤ 1000000 := by
  have h1 := pow_pos10 (6 - j)
  have h2 : 10 ^ (6 - j) ≤ 10 ^ 6 := Nat.pow_le_pow_right (by omega) (by omega)
  have h3 : (10 : Nat) ^ 6 = 1000000 := rfl
  omega
set_option maxRecDepth 20000 in
set_option maxHeartbeats 8000000 in
theorem decimalNearest_walk (s : ByteArray) (z : Int) (w : World) (hs : s.size ≤ 9223372036854775807) (hz : (Lit.int .u8 z).wf = true) :
    Calls Tryd.prog 7 #[.string s, .int .u8 z] w fun e w' => e = .returned (.bool true) ∧ Below w.heap.size w w' := by
  have hz1 : 0 ≤ z ∧ z ≤ 255 := by simpa [Lit.wf, IntKind.min, IntKind.max, IntKind.signed, IntKind.bits] using hz
  obtain ⟨hz0, hz255⟩ := hz1
  clear hz
  obtain ⟨k, hk⟩ : ∃ k : Nat, z % 7 = (k : Int) := ⟨(z % 7).toNat, by omega⟩
  have hk6 : k ≤ 6 := by omega
  have hw1 : IntKind.i64.wrap (k : Int) = (k : Int) := by rw [IntKind.wrap_i64]; omega
  have HA := Lib.hid awake_any
  have HV := Lib.hid (fun w => rvalid_wide s w hs)
  cases ho : dOk s.data.toList with
  | false =>
    rw [ho] at HV
    clear ho
    go_enter Tryd.func7, Tryd.ntmps7
    go_wp2_with fail
    refine (Calls.toExt (HA.out _)).mono ?_
    rintro e _ ⟨rfl, x0, rfl⟩
    go_wp2_with fail
    refine (Calls.toExt (HV.out _)).mono ?_
    rintro e _ ⟨rfl, x1, rfl⟩
    go_wp2_with fail
    refine (Calls.toExt (HA.out _)).mono ?_
    rintro e _ ⟨rfl, x2, rfl⟩
    go_wp2_with fail
    go_ret
    exact ⟨rfl, by (show Bel w _; (repeat (first | exact Bel.refl _ | refine Bel.ext ?_ _ | refine Bel.alloc ?_ _ | refine Bel.drewN ?_ _ | refine Bel.drew ?_ | refine Bel.setCell ?_ _ _ ?_ | exact Nat.le_refl _ | (simp; done) | omega | (simp <;> omega))))⟩
  | true =>
    rw [ho] at HV
    have hsz := ok_size ho
    have HR := Lib.hid (fun w => round_any s (k : Int) w (by omega))
    have HM1 := Lib.hid (fun w => millionths_any s w hs)
    rcases round_val ho hk6 with hv | ⟨hc, hd, hf, hm⟩
    · rw [hv] at HR
      simp only [bs_nil] at HR
      have HM2 := Lib.hid (fun w => millionths_any ⟨#[]⟩ w (by decide))
      rw [show milV (ByteArray.mk #[]).data.toList = (0, false) from rfl] at HM2
      clear hv ho
      generalize milV s.data.toList = m1 at *
      obtain ⟨v1, b1⟩ := m1
      cases b1
      all_goals
        go_enter Tryd.func7, Tryd.ntmps7
        go_wp2_with fail
        refine (Calls.toExt (HA.out _)).mono ?_
        rintro e _ ⟨rfl, x0, rfl⟩
        go_wp2_with fail
        refine (Calls.toExt (HV.out _)).mono ?_
        rintro e _ ⟨rfl, x1, rfl⟩
        go_wp2_with fail
        refine (Calls.toExt (HR.out _)).mono ?_
        rintro e _ ⟨rfl, x2, rfl⟩
        go_wp2_with fail
        refine (Calls.toExt (HM1.out _)).mono ?_
        rintro e _ ⟨rfl, x3, rfl⟩
        go_wp2_with fail
        refine (Calls.toExt (HM2.out _)).mono ?_
        rintro e _ ⟨rfl, x4, rfl⟩
        go_wp2_with fail
        go_ret
        exact ⟨rfl, by (show Bel w _; (repeat (first | exact Bel.refl _ | refine Bel.ext ?_ _ | refine Bel.alloc ?_ _ | refine Bel.drewN ?_ _ | refine Bel.drew ?_ | refine Bel.setCell ?_ _ _ ?_ | exact Nat.le_refl _ | (simp; done) | omega | (simp <;> omega))))⟩
    · have hrs := dOk_size hd
      have HM2 := Lib.hid (fun w => millionths_any (bs (roundD s.data.toList (k : Int)).1) w (by rw [bs_size]; omega))
      rw [bs_data] at HM2
      cases hb1 : (milV s.data.toList).2 with
      | false =>
        obtain ⟨v1, hm1⟩ : ∃ v1, milV s.data.toList = (v1, false) := ⟨_, Prod.ext rfl hb1⟩
        rw [hm1] at HM1
        clear hm1
        generalize milV (roundD s.data.toList (k : Int)).1 = m2 at *
        obtain ⟨v2, b2⟩ := m2
        rw [hc] at HR
        clear hc hd hf hm ho hb1 hrs
        generalize bs (roundD s.data.toList (k : Int)).1 = r at *
        go_enter Tryd.func7, Tryd.ntmps7
        go_wp2_with fail
        refine (Calls.toExt (HA.out _)).mono ?_
        rintro e _ ⟨rfl, x0, rfl⟩
        go_wp2_with fail
        refine (Calls.toExt (HV.out _)).mono ?_
        rintro e _ ⟨rfl, x1, rfl⟩
        go_wp2_with fail
        refine (Calls.toExt (HR.out _)).mono ?_
        rintro e _ ⟨rfl, x2, rfl⟩
        go_wp2_with fail
        refine (Calls.toExt (HM1.out _)).mono ?_
        rintro e _ ⟨rfl, x3, rfl⟩
        go_wp2_with fail
        refine (Calls.toExt (HM2.out _)).mono ?_
        rintro e _ ⟨rfl, x4, rfl⟩
        go_wp2_with fail
        go_ret
        exact ⟨rfl, by (show Bel w _; (repeat (first | exact Bel.refl _ | refine Bel.ext ?_ _ | refine Bel.alloc ?_ _ | refine Bel.drewN ?_ _ | refine Bel.drew ?_ | refine Bel.setCell ?_ _ _ ?_ | exact Nat.le_refl _ | (simp; done) | omega | (simp <;> omega))))⟩
      | true =>
        obtain ⟨e1, l1, l2⟩ := milV_mv hb1
        rw [e1] at HM1
        cases hb2 : (milV (roundD s.data.toList (k : Int)).1).2 with
        | false =>
          obtain ⟨v2, hm2⟩ : ∃ v2, milV (roundD s.data.toList (k : Int)).1 = (v2, false) := ⟨_, Prod.ext rfl hb2⟩
          rw [hm2] at HM2
          clear hm2
          rw [hc] at HR
          clear hc hd hf hm ho hb1 hb2 hrs e1
          generalize bs (roundD s.data.toList (k : Int)).1 = r at *
          generalize mv s.data.toList = v1 at *
          go_enter Tryd.func7, Tryd.ntmps7
          go_wp2_with fail
          refine (Calls.toExt (HA.out _)).mono ?_
          rintro e _ ⟨rfl, x0, rfl⟩
          go_wp2_with fail
          refine (Calls.toExt (HV.out _)).mono ?_
          rintro e _ ⟨rfl, x1, rfl⟩
          go_wp2_with fail
          refine (Calls.toExt (HR.out _)).mono ?_
          rintro e _ ⟨rfl, x2, rfl⟩
          go_wp2_with fail
          refine (Calls.toExt (HM1.out _)).mono ?_
          rintro e _ ⟨rfl, x3, rfl⟩
          go_wp2_with fail
          refine (Calls.toExt (HM2.out _)).mono ?_
          rintro e _ ⟨rfl, x4, rfl⟩
          go_wp2_with fail
          go_ret
          exact ⟨rfl, by (show Bel w _; (repeat (first | exact Bel.refl _ | refine Bel.ext ?_ _ | refine Bel.alloc ?_ _ | refine Bel.drewN ?_ _ | refine Bel.drew ?_ | refine Bel.setCell ?_ _ _ ?_ | exact Nat.le_refl _ | (simp; done) | omega | (simp <;> omega))))⟩
        | true =>
          obtain ⟨e2, l3, l4⟩ := milV_mv hb2
          rw [e2] at HM2
          obtain ⟨n1, n2⟩ := near_of hm
          have HG := Lib.hid (fun w => round_any (bs (roundD s.data.toList (k : Int)).1) (k : Int) w (by rw [bs_size]; omega))
          rw [bs_data, round_again hd hk6 hf] at HG
          have HP := Lib.hid (fun w => operand_any (bs (roundD s.data.toList (k : Int)).1) 3 w (by rw [bs_size]; omega))
          rw [bs_data, op_v hd, hf] at HP
          rw [hc] at HR
          clear hc hd hf hm ho hb1 hb2 hrs e1 e2
          generalize bs (roundD s.data.toList (k : Int)).1 = r at *
          generalize mv s.data.toList = v1 at *
          generalize mv (roundD s.data.toList (k : Int)).1 = v2 at *
          obtain ⟨PP, hPP⟩ : ∃ PP : Nat → Int, ∀ j, PP j = ((10 ^ (6 - j) : Nat) : Int) := ⟨_, fun _ => rfl⟩
          rw [← hPP k] at n1 n2
          have HP0 : Hid (PP 0 = 1000000) := by unfold Hid; rw [hPP]; rfl
          have HPS : Hid (∀ j, j < 6 → PP j / 10 = PP (j + 1)) := fun j h => by rw [hPP, hPP]; exact pow_step h
          have HPB : Hid (∀ j, 1 ≤ PP j ∧ PP j ≤ 1000000) := fun j => by rw [hPP]; exact pow_bd j
          clear hPP
          go_enter Tryd.func7, Tryd.ntmps7
          go_wp2_with fail
          refine (Calls.toExt (HA.out _)).mono ?_
          rintro e _ ⟨rfl, x0, rfl⟩
          go_wp2_with fail
          refine (Calls.toExt (HV.out _)).mono ?_
          rintro e _ ⟨rfl, x1, rfl⟩
          go_wp2_with fail
          refine (Calls.toExt (HR.out _)).mono ?_
          rintro e _ ⟨rfl, x2, rfl⟩
          go_wp2_with fail
          refine (Calls.toExt (HM1.out _)).mono ?_
          rintro e _ ⟨rfl, x3, rfl⟩
          go_wp2_with fail
          refine (Calls.toExt (HM2.out _)).mono ?_
          rintro e _ ⟨rfl, x4, rfl⟩
          go_wp2_with fail
          refine (Calls.toExt (HG.out _)).mono ?_
          rintro e _ ⟨rfl, x5, rfl⟩
          go_wp2_with fail
          refine (Calls.toExt (HP.out _)).mono ?_
          rintro e _ ⟨rfl, x6, rfl⟩
          go_wp2_with fail
          go_loop [16, 17] (fun u i => ∃ j : Nat, j ≤ k ∧ i = .int .i64 (j : Int) ∧ u = .int .i64 (PP j)) (fun _ i => k - (intOf i).toNat)
          case atStart => exact ⟨0, Nat.zero_le _, rfl, by rw [HP0.out]⟩
          case round =>
            obtain ⟨j, hj, rfl, rfl⟩ := hrel
            by_cases hjk : j < k
            · have hst := HPS.out j (by omega)
              obtain ⟨p1, p2⟩ := HPB.out j
              go_wp2_with fail
              go_round
              case rel => exact ⟨j + 1, by omega, by go_num, by rw [hst]⟩
              case measure => simp [intOf]; omega
            · obtain rfl : j = k := by omega
              obtain ⟨p1, p2⟩ := HPB.out j
              go_wp2_with fail
              go_ret
              exact ⟨rfl, by (show Bel w _; (repeat (first | exact Bel.refl _ | refine Bel.ext ?_ _ | refine Bel.alloc ?_ _ | refine Bel.drewN ?_ _ | refine Bel.drew ?_ | refine Bel.setCell ?_ _ _ ?_ | exact Nat.le_refl _ | (simp; done) | omega | (simp <;> omega))))⟩
end Go.Proofs.YtnnidhjmakpaeaaDoor
namespace Go.Proofs.YtnnidhjmakpaeaaDoor.lawDecimalNearest
open Go.ChangeShapes Go.WideShapes Go.ChangeAt Go.RowKit Go.Joins
open Go.ChangeMaps (open_string shut_string)
set_option maxRecDepth 100000 in
theorem lifted (os : Os) (started : os.Started) (H : Type) (enc : TypeId × Value → H) :
    ReturnsInHanded {} Tryd.checked os 7 .any (fun w args => (Rows.decimalNearestSpec.pre enc Tryd.prog Tryd.f7 Rows.decimalNearestRow.domain false w args ∧ laidMetH Tryd.prog Rows.decimalNearestRow.laid w) ∧ sizedMet enc Tryd.prog Tryd.f7 (OpenSpec.ofChange Rows.decimalNearestSpec) false w args)
      (Rows.decimalNearestSpec.post enc Tryd.prog Tryd.f7 false true false false) := by
  refine returnsInHanded_of_change_and (C := Tryd.checked) (X := fun w _ => laidMetH Tryd.prog Rows.decimalNearestRow.laid w) (fun _ _ _ hh h => h.of_heap hh) own started (by kernel_rfl) Tryd.func7
    (ChangeSpec.witness_shaped (enc := enc) (C := Tryd.checked) (os := os) (X := fun w _ => laidMetH Tryd.prog Rows.decimalNearestRow.laid w) false (World.laidAll Tryd.prog os Rows.decimalNearestRow.laid) #[.string .empty, .int .u8 0] 8 (World.laidAll_os _ _ _)
      (World.shaped_of_ZipB (by kernel_rfl) (by kernel_rfl)) (by kernel_rfl) (by kernel_rfl) (by kernel_rfl)
      (by rw [MakeChecks.laidMetH_plain _ _ _ (by kernel_rfl)]; exact laidMet_laidAll _ (by kernel_rfl) (by kernel_rfl))) ?_
  intro W base args ds gs before hval0 hW _ _ hL _
  have hval : ∀ (j : Nat) t v, Tryd.f7.params[j]? = some t → args[j]? = some v → Value.okWide Tryd.prog W .any base t v := hval0
  have hW' := hW
  obtain ⟨p, q, hA0, hV, rfl, hfz, hnd⟩ := hW
  have hA : DataW.TrodAll enc Tryd.prog W 0 (fun _ => true) true Tryd.f7.params.toList args.toList ds p := hA0
  rw [Tryd.params7] at hA hval
  obtain ⟨v0, vs0, d0, ds0, p0, q0, hargs, rfl, rfl, h0, r0⟩ := trodAll_cons hA
  obtain ⟨v1, vs1, d1, ds1, p1, q1, rfl, rfl, rfl, h1, r1⟩ := trodAll_cons r0
  obtain ⟨rfl, rfl, rfl⟩ := trodAll_nil r1
  obtain rfl : args = #[v0, v1] := by cases args; simp_all
  obtain ⟨rfl, rfl⟩ := trodVars_none hV
  obtain ⟨s0, rfl, rfl, rfl, hs0⟩ := open_string Tryd.underlying9 (hval 0 9 v0 rfl rfl) h0
  obtain ⟨z1, rfl, rfl, rfl, hz1⟩ := open_int Tryd.underlying5 (hval 1 5 v1 rfl rfl) h1
  clear hA0 hval0
  refine (decimalNearest_walk s0 z1 W (by unfold maxLen at hs0; omega) hz1).mono fun e W' ⟨he, bel⟩ => ?_
  subst he
  exact ⟨_, rfl, _, _, _, [], _, [], hW', trodAll_mk1 (shut_bool Tryd.underlying4 _), (trodAll_cons_mk (shut_string Tryd.underlying9 hs0) (trodAll_cons_mk (shut_int Tryd.underlying5 hz1) trodAll_mk0)), rfl, bel.frame _, fun h => by cases h⟩

theorem proved : Rows.DecimalNearestSaid :=
  OpenClaim.holds_of_wide 7 Tryd.f7 rfl rfl rfl rfl rfl rfl rfl ⟨rfl, rfl, rfl, rfl, rfl⟩ rfl rfl rfl rfl rfl (by kernel_rfl) Tryd.func7 (by kernel_rfl)
    (of_decide_eq_true (by kernel_rfl)) (by unfold Func.isWrapper; first | (rw [if_pos (by decide +kernel)]; kernel_rfl) | (rw [if_neg (by decide +kernel)]; exact ⟨rfl, rfl⟩))
    (fun os started H enc _ => lifted os started H enc)
theorem card : Rows.DecimalNearestCardSaid :=
  Claim7.holds_tied_plain_at .later [] [.data, .data, .data, .data, .sentinel, .sentinel, .pinned] true (true, "a8fceb8a4a046216dcf9676452f5cdae9c3643ae5079bc2e2ddbd132def52f85") true proved (fun _ h => by cases h) (by kernel_rfl) (fun _ h => by cases h) decimalNearest_row_tie rfl ⟨rfl, rfl⟩ (by kernel_rfl) rfl
    (fun f fn hf hfn => by
      obtain rfl : f = 7 := Option.some.inj ((show Tryd.prog.funcNamed "calque/calquelaw07.DecimalNearest" = some 7 by kernel_rfl).symm.trans hf) |>.symm
      obtain rfl : fn = Tryd.f7 := (Option.some.inj (Tryd.func7.symm.trans hfn)).symm
      exact ⟨by kernel_rfl, fun j t ht => by
        rw [Tryd.params7] at ht
        have hm : t ∈ [9, 5] := by simpa using Array.mem_of_getElem? ht
        have hall : ([9, 5].all fun u => !Tryd.prog.wantsStandIn u) = true := by kernel_rfl
        exact (show Tryd.prog.wantsStandIn t = false by simpa using List.all_eq_true.1 hall t hm)⟩)
    (by kernel_rfl)
#print axioms card
end Go.Proofs.YtnnidhjmakpaeaaDoor.lawDecimalNearest
