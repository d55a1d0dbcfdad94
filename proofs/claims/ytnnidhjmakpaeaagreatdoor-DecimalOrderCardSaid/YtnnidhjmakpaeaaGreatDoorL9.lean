/- DecimalOrder: the order of numbers is transitive; shifting and rounding do not reverse it. -/
import Derived.Test.YtnnidhjmakpaeaaGreatDoorW15
import Derived.Test.YtnnidhjmakpaeaaGreatDoorW19B
import Derived.Test.YtnnidhjmakpaeaaGreatDoorW23
import Derived.Test.YtnnidhjmakpaeaaGreatDoorP9
import Derived.Test.YtnnidhjmakpaeaaGreatDoorO
namespace Go.Proofs.YtnnidhjmakpaeaaGreatDoor
open Go.RowKit
attribute [local go_sem] Ext.cell Ext.frozen
attribute [local go_sem ↓] Go.wp_at_zero Go.wp_at_succ

theorem ok_size {s : ByteArray} (h : dOk s.data.toList = true) : s.size ≤ 23 := by have := dOk_size h; rw [size_len] at this; exact this
theorem round_cases {l : List UInt8} (h : dOk l = true) (n : Int) : roundD l n = ([], 2) ∨ ((roundD l n).2 = 0 ∧ dOk (roundD l n).1 = true ∧ ∃ u, mv (roundD l n).1 = (if dNeg l then -((rnd (10 ^ u) (mag l) : Nat) : Int) else ((rnd (10 ^ u) (mag l) : Nat) : Int)) ∧ u = (6 - n).toNat) := by
  by_cases h1 : n < 0 ∨ 6 < n
  · left; unfold roundD; rw [if_neg (by rw [h]; simp), if_pos h1]
  · obtain ⟨k, rfl⟩ : ∃ k : Nat, n = (k : Int) := ⟨n.toNat, by omega⟩
    rcases round_val h (n := k) (by omega) with h2 | ⟨h2, h3, _, h4⟩
    · exact .inl h2
    · exact .inr ⟨h2, h3, 6 - k, h4, by omega⟩
theorem cmp_mono {a b X Y : Int} (h1 : a ≤ b → X ≤ Y) (h2 : b ≤ a → Y ≤ X) : 0 ≤ cmpI X Y * cmpI a b := by
  rcases Int.lt_trichotomy a b with h | h | h
  · have e : cmpI a b = -1 := by unfold cmpI; rw [if_pos h]
    have h3 := h1 (by omega)
    rw [e]
    rcases Int.lt_trichotomy X Y with h4 | h4 | h4
    · have e2 : cmpI X Y = -1 := by unfold cmpI; rw [if_pos h4]
      rw [e2]; decide
    · rw [cmpI_zero.2 h4]; decide
    · omega
  · rw [cmpI_zero.2 h, Int.mul_zero]; exact Int.le_refl _
  · have e : cmpI a b = 1 := by unfold cmpI; rw [if_neg (by omega), if_neg (by omega)]
    have h3 := h2 (by omega)
    rw [e]
    rcases Int.lt_trichotomy X Y with h4 | h4 | h4
    · omega
    · rw [cmpI_zero.2 h4]; decide
    · have e2 : cmpI X Y = 1 := by unfold cmpI; rw [if_neg (by omega), if_neg (by omega)]
      rw [e2]; decide
/-- rounding, as Compare sees it -/
theorem round_comp {l m : List UInt8} (hl : dOk l = true) (hm : dOk m = true) {n : Int} (h1 : (roundD l n).2 = 0) (h2 : (roundD m n).2 = 0) :
    ∃ d : Int, compV (roundD l n).1 (roundD m n).1 = (d, 0) ∧ 0 ≤ d * cmpI (mv l) (mv m) ∧ -1 ≤ d ∧ d ≤ 1 := by
  rcases round_cases hl n with h3 | ⟨_, h4, u, h5, hu⟩
  · rw [h3] at h1; cases h1
  rcases round_cases hm n with h6 | ⟨_, h7, v, h8, hv⟩
  · rw [h6] at h2; cases h2
  obtain rfl : u = v := by omega
  refine ⟨_, compV_yes h4 h7, ?_, cmpI_bd _ _⟩
  rw [h5, h8]
  exact cmp_mono (fun h => round_order h) (fun h => round_order h)
set_option maxRecDepth 20000 in
set_option maxHeartbeats 16000000 in
theorem decimalOrder_walk (s t : ByteArray) (n : Int) (w : World) (hs : s.size ≤ 9223372036854775807) (ht : t.size ≤ 9223372036854775807) (hn : (Lit.int .i8 n).wf = true) :
    Calls Tryz.prog 6 #[.string s, .string t, .int .i8 n] w fun e w' => e = .returned (.bool true) ∧ Below w.heap.size w w' := by
  have hn1 : -128 ≤ n ∧ n ≤ 127 := by simpa [Lit.wf, IntKind.min, IntKind.max, IntKind.signed, IntKind.bits] using hn
  obtain ⟨hn1, hn2⟩ := hn1
  clear hn
  have hw1 : IntKind.i64.wrap n = n := by rw [IntKind.wrap_i64]; omega
  have HA := Lib.hid awake_any
  have HV := Lib.hid (fun w => rvalid_wide s w hs)
  have HW := Lib.hid (fun w => rvalid_wide t w ht)
  cases ho : dOk s.data.toList with
  | false =>
    rw [ho] at HV
    clear ho
    go_enter Tryz.func6, Tryz.ntmps6
    go_wp2_with fail
    refine (Calls.toExt (HA.out _)).mono ?_
    rintro e _ ⟨rfl, x0, rfl⟩
    go_wp2_with fail
    refine (Calls.toExt (HV.out _)).mono ?_
    rintro e _ ⟨rfl, x1, rfl⟩
    go_wp2_with fail
    refine (Calls.toExt (HA.out _)).mono ?_
    rintro e _ ⟨rfl, x2, rfl⟩
    go_wp2_with fail
    go_ret
    exact ⟨rfl, by (show Bel w _; (repeat (first | exact Bel.refl _ | refine Bel.ext ?_ _ | refine Bel.alloc ?_ _ | refine Bel.drewN ?_ _ | refine Bel.drew ?_ | refine Bel.setCell ?_ _ _ ?_ | exact Nat.le_refl _ | (simp; done) | omega | (simp <;> omega))))⟩
  | true =>
    rw [ho] at HV
    cases ho2 : dOk t.data.toList with
    | false =>
      rw [ho2] at HW
      clear ho ho2
      go_enter Tryz.func6, Tryz.ntmps6
      go_wp2_with fail
      refine (Calls.toExt (HA.out _)).mono ?_
      rintro e _ ⟨rfl, x0, rfl⟩
      go_wp2_with fail
      refine (Calls.toExt (HV.out _)).mono ?_
      rintro e _ ⟨rfl, x1, rfl⟩
      go_wp2_with fail
      refine (Calls.toExt (HW.out _)).mono ?_
      rintro e _ ⟨rfl, x2, rfl⟩
      go_wp2_with fail
      refine (Calls.toExt (HA.out _)).mono ?_
      rintro e _ ⟨rfl, x3, rfl⟩
      go_wp2_with fail
      go_ret
      exact ⟨rfl, by (show Bel w _; (repeat (first | exact Bel.refl _ | refine Bel.ext ?_ _ | refine Bel.alloc ?_ _ | refine Bel.drewN ?_ _ | refine Bel.drew ?_ | refine Bel.setCell ?_ _ _ ?_ | exact Nat.le_refl _ | (simp; done) | omega | (simp <;> omega))))⟩
    | true =>
      rw [ho2] at HW
      have hsz := ok_size ho
      have hsz2 := ok_size ho2
      have HC := Lib.hid (fun w => compare_any s t w (by omega) (by omega))
      rw [compV_yes ho ho2] at HC
      have HX := Lib.hid (fun w => shift_any s n w (by omega))
      have HY := Lib.hid (fun w => shift_any t n w (by omega))
      have HP := Lib.hid (fun w => round_any s n w (by omega))
      have HQ := Lib.hid (fun w => round_any t n w (by omega))
      have hbd := cmpI_bd (mv s.data.toList) (mv t.data.toList)
      obtain ⟨hb1, hb2⟩ := hbd
      rcases shift_val ho n with hx | ⟨hx, hxd, _⟩
      · rw [hx] at HX
        clear hx
        generalize shiftD t.data.toList n = ys at *
        rcases round_cases ho n with hp | ⟨hp, hpd, _⟩
        · rw [hp] at HP
          clear hp ho ho2
          generalize cmpI (mv s.data.toList) (mv t.data.toList) = c at *
          generalize roundD t.data.toList n = q at *
          go_enter Tryz.func6, Tryz.ntmps6
          go_wp2_with fail
          refine (Calls.toExt (HA.out _)).mono ?_
          rintro e _ ⟨rfl, x0, rfl⟩
          go_wp2_with fail
          refine (Calls.toExt (HV.out _)).mono ?_
          rintro e _ ⟨rfl, x1, rfl⟩
          go_wp2_with fail
          refine (Calls.toExt (HW.out _)).mono ?_
          rintro e _ ⟨rfl, x2, rfl⟩
          go_wp2_with fail
          refine (Calls.toExt (HC.out _)).mono ?_
          rintro e _ ⟨rfl, x3, rfl⟩
          go_wp2_with fail
          refine (Calls.toExt (HX.out _)).mono ?_
          rintro e _ ⟨rfl, x4, rfl⟩
          go_wp2_with fail
          refine (Calls.toExt (HY.out _)).mono ?_
          rintro e _ ⟨rfl, x5, rfl⟩
          go_wp2_with fail
          refine (Calls.toExt (HP.out _)).mono ?_
          rintro e _ ⟨rfl, x6, rfl⟩
          go_wp2_with fail
          refine (Calls.toExt (HQ.out _)).mono ?_
          rintro e _ ⟨rfl, x7, rfl⟩
          go_wp2_with fail
          go_ret
          exact ⟨rfl, by (show Bel w _; (repeat (first | exact Bel.refl _ | refine Bel.ext ?_ _ | refine Bel.alloc ?_ _ | refine Bel.drewN ?_ _ | refine Bel.drew ?_ | refine Bel.setCell ?_ _ _ ?_ | exact Nat.le_refl _ | (simp; done) | omega | (simp <;> omega))))⟩
        rcases round_cases ho2 n with hq | ⟨hq, hqd, _⟩
        · rw [hq] at HQ
          rw [hp] at HP
          clear hp hq hpd ho ho2
          generalize cmpI (mv s.data.toList) (mv t.data.toList) = c at *
          generalize bs (roundD s.data.toList n).1 = p at *
          go_enter Tryz.func6, Tryz.ntmps6
          go_wp2_with fail
          refine (Calls.toExt (HA.out _)).mono ?_
          rintro e _ ⟨rfl, x0, rfl⟩
          go_wp2_with fail
          refine (Calls.toExt (HV.out _)).mono ?_
          rintro e _ ⟨rfl, x1, rfl⟩
          go_wp2_with fail
          refine (Calls.toExt (HW.out _)).mono ?_
          rintro e _ ⟨rfl, x2, rfl⟩
          go_wp2_with fail
          refine (Calls.toExt (HC.out _)).mono ?_
          rintro e _ ⟨rfl, x3, rfl⟩
          go_wp2_with fail
          refine (Calls.toExt (HX.out _)).mono ?_
          rintro e _ ⟨rfl, x4, rfl⟩
          go_wp2_with fail
          refine (Calls.toExt (HY.out _)).mono ?_
          rintro e _ ⟨rfl, x5, rfl⟩
          go_wp2_with fail
          refine (Calls.toExt (HP.out _)).mono ?_
          rintro e _ ⟨rfl, x6, rfl⟩
          go_wp2_with fail
          refine (Calls.toExt (HQ.out _)).mono ?_
          rintro e _ ⟨rfl, x7, rfl⟩
          go_wp2_with fail
          go_ret
          exact ⟨rfl, by (show Bel w _; (repeat (first | exact Bel.refl _ | refine Bel.ext ?_ _ | refine Bel.alloc ?_ _ | refine Bel.drewN ?_ _ | refine Bel.drew ?_ | refine Bel.setCell ?_ _ _ ?_ | exact Nat.le_refl _ | (simp; done) | omega | (simp <;> omega))))⟩
        obtain ⟨d, hd, hd0, hd1, hd2⟩ := round_comp ho ho2 hp hq
        have hl3 := dOk_size hpd
        have hl4 := dOk_size hqd
        have HE := Lib.hid (fun w => compare_any (bs (roundD s.data.toList n).1) (bs (roundD t.data.toList n).1) w (by rw [bs_size]; omega) (by rw [bs_size]; omega))
        rw [bs_data, bs_data, hd] at HE
        rw [hq] at HQ
        rw [hp] at HP
        clear hd hp hq hpd hqd ho ho2 hl3 hl4
        generalize bs (roundD s.data.toList n).1 = p at *
        generalize bs (roundD t.data.toList n).1 = q at *
        generalize cmpI (mv s.data.toList) (mv t.data.toList) = c at *
        have hdc : d * c ≤ 1 := by
          have : c = -1 ∨ c = 0 ∨ c = 1 := by omega
          rcases this with h | h | h <;> subst h <;> omega
        have hwr : IntKind.i64.wrap (d * c) = d * c := by rw [IntKind.wrap_i64]; omega
        have hnl : ¬ d * c < 0 := by omega
        go_enter Tryz.func6, Tryz.ntmps6
        go_wp2_with fail
        refine (Calls.toExt (HA.out _)).mono ?_
        rintro e _ ⟨rfl, x0, rfl⟩
        go_wp2_with fail
        refine (Calls.toExt (HV.out _)).mono ?_
        rintro e _ ⟨rfl, x1, rfl⟩
        go_wp2_with fail
        refine (Calls.toExt (HW.out _)).mono ?_
        rintro e _ ⟨rfl, x2, rfl⟩
        go_wp2_with fail
        refine (Calls.toExt (HC.out _)).mono ?_
        rintro e _ ⟨rfl, x3, rfl⟩
        go_wp2_with fail
        refine (Calls.toExt (HX.out _)).mono ?_
        rintro e _ ⟨rfl, x4, rfl⟩
        go_wp2_with fail
        refine (Calls.toExt (HY.out _)).mono ?_
        rintro e _ ⟨rfl, x5, rfl⟩
        go_wp2_with fail
        refine (Calls.toExt (HP.out _)).mono ?_
        rintro e _ ⟨rfl, x6, rfl⟩
        go_wp2_with fail
        refine (Calls.toExt (HQ.out _)).mono ?_
        rintro e _ ⟨rfl, x7, rfl⟩
        go_wp2_with fail
        refine (Calls.toExt (HE.out _)).mono ?_
        rintro e _ ⟨rfl, x8, rfl⟩
        go_wp2_with fail
        go_ret
        exact ⟨rfl, by (show Bel w _; (repeat (first | exact Bel.refl _ | refine Bel.ext ?_ _ | refine Bel.alloc ?_ _ | refine Bel.drewN ?_ _ | refine Bel.drew ?_ | refine Bel.setCell ?_ _ _ ?_ | exact Nat.le_refl _ | (simp; done) | omega | (simp <;> omega))))⟩
      rcases shift_val ho2 n with hy | ⟨hy, hyd, _⟩
      · rw [hy] at HY
        rw [hx] at HX
        clear hx hy hxd
        generalize bs (shiftD s.data.toList n).1 = xs at *
        rcases round_cases ho n with hp | ⟨hp, hpd, _⟩
        · rw [hp] at HP
          clear hp ho ho2
          generalize cmpI (mv s.data.toList) (mv t.data.toList) = c at *
          generalize roundD t.data.toList n = q at *
          go_enter Tryz.func6, Tryz.ntmps6
          go_wp2_with fail
          refine (Calls.toExt (HA.out _)).mono ?_
          rintro e _ ⟨rfl, x0, rfl⟩
          go_wp2_with fail
          refine (Calls.toExt (HV.out _)).mono ?_
          rintro e _ ⟨rfl, x1, rfl⟩
          go_wp2_with fail
          refine (Calls.toExt (HW.out _)).mono ?_
          rintro e _ ⟨rfl, x2, rfl⟩
          go_wp2_with fail
          refine (Calls.toExt (HC.out _)).mono ?_
          rintro e _ ⟨rfl, x3, rfl⟩
          go_wp2_with fail
          refine (Calls.toExt (HX.out _)).mono ?_
          rintro e _ ⟨rfl, x4, rfl⟩
          go_wp2_with fail
          refine (Calls.toExt (HY.out _)).mono ?_
          rintro e _ ⟨rfl, x5, rfl⟩
          go_wp2_with fail
          refine (Calls.toExt (HP.out _)).mono ?_
          rintro e _ ⟨rfl, x6, rfl⟩
          go_wp2_with fail
          refine (Calls.toExt (HQ.out _)).mono ?_
          rintro e _ ⟨rfl, x7, rfl⟩
          go_wp2_with fail
          go_ret
          exact ⟨rfl, by (show Bel w _; (repeat (first | exact Bel.refl _ | refine Bel.ext ?_ _ | refine Bel.alloc ?_ _ | refine Bel.drewN ?_ _ | refine Bel.drew ?_ | refine Bel.setCell ?_ _ _ ?_ | exact Nat.le_refl _ | (simp; done) | omega | (simp <;> omega))))⟩
        rcases round_cases ho2 n with hq | ⟨hq, hqd, _⟩
        · rw [hq] at HQ
          rw [hp] at HP
          clear hp hq hpd ho ho2
          generalize cmpI (mv s.data.toList) (mv t.data.toList) = c at *
          generalize bs (roundD s.data.toList n).1 = p at *
          go_enter Tryz.func6, Tryz.ntmps6
          go_wp2_with fail
          refine (Calls.toExt (HA.out _)).mono ?_
          rintro e _ ⟨rfl, x0, rfl⟩
          go_wp2_with fail
          refine (Calls.toExt (HV.out _)).mono ?_
          rintro e _ ⟨rfl, x1, rfl⟩
          go_wp2_with fail
          refine (Calls.toExt (HW.out _)).mono ?_
          rintro e _ ⟨rfl, x2, rfl⟩
          go_wp2_with fail
          refine (Calls.toExt (HC.out _)).mono ?_
          rintro e _ ⟨rfl, x3, rfl⟩
          go_wp2_with fail
          refine (Calls.toExt (HX.out _)).mono ?_
          rintro e _ ⟨rfl, x4, rfl⟩
          go_wp2_with fail
          refine (Calls.toExt (HY.out _)).mono ?_
          rintro e _ ⟨rfl, x5, rfl⟩
          go_wp2_with fail
          refine (Calls.toExt (HP.out _)).mono ?_
          rintro e _ ⟨rfl, x6, rfl⟩
          go_wp2_with fail
          refine (Calls.toExt (HQ.out _)).mono ?_
          rintro e _ ⟨rfl, x7, rfl⟩
          go_wp2_with fail
          go_ret
          exact ⟨rfl, by (show Bel w _; (repeat (first | exact Bel.refl _ | refine Bel.ext ?_ _ | refine Bel.alloc ?_ _ | refine Bel.drewN ?_ _ | refine Bel.drew ?_ | refine Bel.setCell ?_ _ _ ?_ | exact Nat.le_refl _ | (simp; done) | omega | (simp <;> omega))))⟩
        obtain ⟨d, hd, hd0, hd1, hd2⟩ := round_comp ho ho2 hp hq
        have hl3 := dOk_size hpd
        have hl4 := dOk_size hqd
        have HE := Lib.hid (fun w => compare_any (bs (roundD s.data.toList n).1) (bs (roundD t.data.toList n).1) w (by rw [bs_size]; omega) (by rw [bs_size]; omega))
        rw [bs_data, bs_data, hd] at HE
        rw [hq] at HQ
        rw [hp] at HP
        clear hd hp hq hpd hqd ho ho2 hl3 hl4
        generalize bs (roundD s.data.toList n).1 = p at *
        generalize bs (roundD t.data.toList n).1 = q at *
        generalize cmpI (mv s.data.toList) (mv t.data.toList) = c at *
        have hdc : d * c ≤ 1 := by
          have : c = -1 ∨ c = 0 ∨ c = 1 := by omega
          rcases this with h | h | h <;> subst h <;> omega
        have hwr : IntKind.i64.wrap (d * c) = d * c := by rw [IntKind.wrap_i64]; omega
        have hnl : ¬ d * c < 0 := by omega
        go_enter Tryz.func6, Tryz.ntmps6
        go_wp2_with fail
        refine (Calls.toExt (HA.out _)).mono ?_
        rintro e _ ⟨rfl, x0, rfl⟩
        go_wp2_with fail
        refine (Calls.toExt (HV.out _)).mono ?_
        rintro e _ ⟨rfl, x1, rfl⟩
        go_wp2_with fail
        refine (Calls.toExt (HW.out _)).mono ?_
        rintro e _ ⟨rfl, x2, rfl⟩
        go_wp2_with fail
        refine (Calls.toExt (HC.out _)).mono ?_
        rintro e _ ⟨rfl, x3, rfl⟩
        go_wp2_with fail
        refine (Calls.toExt (HX.out _)).mono ?_
        rintro e _ ⟨rfl, x4, rfl⟩
        go_wp2_with fail
        refine (Calls.toExt (HY.out _)).mono ?_
        rintro e _ ⟨rfl, x5, rfl⟩
        go_wp2_with fail
        refine (Calls.toExt (HP.out _)).mono ?_
        rintro e _ ⟨rfl, x6, rfl⟩
        go_wp2_with fail
        refine (Calls.toExt (HQ.out _)).mono ?_
        rintro e _ ⟨rfl, x7, rfl⟩
        go_wp2_with fail
        refine (Calls.toExt (HE.out _)).mono ?_
        rintro e _ ⟨rfl, x8, rfl⟩
        go_wp2_with fail
        go_ret
        exact ⟨rfl, by (show Bel w _; (repeat (first | exact Bel.refl _ | refine Bel.ext ?_ _ | refine Bel.alloc ?_ _ | refine Bel.drewN ?_ _ | refine Bel.drew ?_ | refine Bel.setCell ?_ _ _ ?_ | exact Nat.le_refl _ | (simp; done) | omega | (simp <;> omega))))⟩
      have hso := shift_order ho ho2 hx hy
      have hl1 := dOk_size hxd
      have hl2 := dOk_size hyd
      have HD := Lib.hid (fun w => compare_any (bs (shiftD s.data.toList n).1) (bs (shiftD t.data.toList n).1) w (by rw [bs_size]; omega) (by rw [bs_size]; omega))
      rw [bs_data, bs_data, compV_yes hxd hyd, hso] at HD
      clear hso hxd hyd
      rw [hx] at HX
      rw [hy] at HY
      clear hx hy hl1 hl2
      generalize bs (shiftD s.data.toList n).1 = xs at *
      generalize bs (shiftD t.data.toList n).1 = ys at *
      rcases round_cases ho n with hp | ⟨hp, hpd, _⟩
      · rw [hp] at HP
        clear hp ho ho2
        generalize cmpI (mv s.data.toList) (mv t.data.toList) = c at *
        generalize roundD t.data.toList n = q at *
        go_enter Tryz.func6, Tryz.ntmps6
        go_wp2_with fail
        refine (Calls.toExt (HA.out _)).mono ?_
        rintro e _ ⟨rfl, x0, rfl⟩
        go_wp2_with fail
        refine (Calls.toExt (HV.out _)).mono ?_
        rintro e _ ⟨rfl, x1, rfl⟩
        go_wp2_with fail
        refine (Calls.toExt (HW.out _)).mono ?_
        rintro e _ ⟨rfl, x2, rfl⟩
        go_wp2_with fail
        refine (Calls.toExt (HC.out _)).mono ?_
        rintro e _ ⟨rfl, x3, rfl⟩
        go_wp2_with fail
        refine (Calls.toExt (HX.out _)).mono ?_
        rintro e _ ⟨rfl, x4, rfl⟩
        go_wp2_with fail
        refine (Calls.toExt (HY.out _)).mono ?_
        rintro e _ ⟨rfl, x5, rfl⟩
        go_wp2_with fail
        refine (Calls.toExt (HD.out _)).mono ?_
        rintro e _ ⟨rfl, x6, rfl⟩
        go_wp2_with fail
        refine (Calls.toExt (HP.out _)).mono ?_
        rintro e _ ⟨rfl, x7, rfl⟩
        go_wp2_with fail
        refine (Calls.toExt (HQ.out _)).mono ?_
        rintro e _ ⟨rfl, x8, rfl⟩
        go_wp2_with fail
        go_ret
        exact ⟨rfl, by (show Bel w _; (repeat (first | exact Bel.refl _ | refine Bel.ext ?_ _ | refine Bel.alloc ?_ _ | refine Bel.drewN ?_ _ | refine Bel.drew ?_ | refine Bel.setCell ?_ _ _ ?_ | exact Nat.le_refl _ | (simp; done) | omega | (simp <;> omega))))⟩
      rcases round_cases ho2 n with hq | ⟨hq, hqd, _⟩
      · rw [hq] at HQ
        rw [hp] at HP
        clear hp hq hpd ho ho2
        generalize cmpI (mv s.data.toList) (mv t.data.toList) = c at *
        generalize bs (roundD s.data.toList n).1 = p at *
        go_enter Tryz.func6, Tryz.ntmps6
        go_wp2_with fail
        refine (Calls.toExt (HA.out _)).mono ?_
        rintro e _ ⟨rfl, x0, rfl⟩
        go_wp2_with fail
        refine (Calls.toExt (HV.out _)).mono ?_
        rintro e _ ⟨rfl, x1, rfl⟩
        go_wp2_with fail
        refine (Calls.toExt (HW.out _)).mono ?_
        rintro e _ ⟨rfl, x2, rfl⟩
        go_wp2_with fail
        refine (Calls.toExt (HC.out _)).mono ?_
        rintro e _ ⟨rfl, x3, rfl⟩
        go_wp2_with fail
        refine (Calls.toExt (HX.out _)).mono ?_
        rintro e _ ⟨rfl, x4, rfl⟩
        go_wp2_with fail
        refine (Calls.toExt (HY.out _)).mono ?_
        rintro e _ ⟨rfl, x5, rfl⟩
        go_wp2_with fail
        refine (Calls.toExt (HD.out _)).mono ?_
        rintro e _ ⟨rfl, x6, rfl⟩
        go_wp2_with fail
        refine (Calls.toExt (HP.out _)).mono ?_
        rintro e _ ⟨rfl, x7, rfl⟩
        go_wp2_with fail
        refine (Calls.toExt (HQ.out _)).mono ?_
        rintro e _ ⟨rfl, x8, rfl⟩
        go_wp2_with fail
        go_ret
        exact ⟨rfl, by (show Bel w _; (repeat (first | exact Bel.refl _ | refine Bel.ext ?_ _ | refine Bel.alloc ?_ _ | refine Bel.drewN ?_ _ | refine Bel.drew ?_ | refine Bel.setCell ?_ _ _ ?_ | exact Nat.le_refl _ | (simp; done) | omega | (simp <;> omega))))⟩
      obtain ⟨d, hd, hd0, hd1, hd2⟩ := round_comp ho ho2 hp hq
      have hl3 := dOk_size hpd
      have hl4 := dOk_size hqd
      have HE := Lib.hid (fun w => compare_any (bs (roundD s.data.toList n).1) (bs (roundD t.data.toList n).1) w (by rw [bs_size]; omega) (by rw [bs_size]; omega))
      rw [bs_data, bs_data, hd] at HE
      rw [hq] at HQ
      rw [hp] at HP
      clear hd hp hq hpd hqd ho ho2 hl3 hl4
      generalize bs (roundD s.data.toList n).1 = p at *
      generalize bs (roundD t.data.toList n).1 = q at *
      generalize cmpI (mv s.data.toList) (mv t.data.toList) = c at *
      have hdc : d * c ≤ 1 := by
        have : c = -1 ∨ c = 0 ∨ c = 1 := by omega
        rcases this with h | h | h <;> subst h <;> omega
      have hwr : IntKind.i64.wrap (d * c) = d * c := by rw [IntKind.wrap_i64]; omega
      have hnl : ¬ d * c < 0 := by omega
      go_enter Tryz.func6, Tryz.ntmps6
      go_wp2_with fail
      refine (Calls.toExt (HA.out _)).mono ?_
      rintro e _ ⟨rfl, x0, rfl⟩
      go_wp2_with fail
      refine (Calls.toExt (HV.out _)).mono ?_
      rintro e _ ⟨rfl, x1, rfl⟩
      go_wp2_with fail
      refine (Calls.toExt (HW.out _)).mono ?_
      rintro e _ ⟨rfl, x2, rfl⟩
      go_wp2_with fail
      refine (Calls.toExt (HC.out _)).mono ?_
      rintro e _ ⟨rfl, x3, rfl⟩
      go_wp2_with fail
      refine (Calls.toExt (HX.out _)).mono ?_
      rintro e _ ⟨rfl, x4, rfl⟩
      go_wp2_with fail
      refine (Calls.toExt (HY.out _)).mono ?_
      rintro e _ ⟨rfl, x5, rfl⟩
      go_wp2_with fail
      refine (Calls.toExt (HD.out _)).mono ?_
      rintro e _ ⟨rfl, x6, rfl⟩
      go_wp2_with fail
      refine (Calls.toExt (HP.out _)).mono ?_
      rintro e _ ⟨rfl, x7, rfl⟩
      go_wp2_with fail
      refine (Calls.toExt (HQ.out _)).mono ?_
      rintro e _ ⟨rfl, x8, rfl⟩
      go_wp2_with fail
      refine (Calls.toExt (HE.out _)).mono ?_
      rintro e _ ⟨rfl, x9, rfl⟩
      go_wp2_with fail
      go_ret
      exact ⟨rfl, by (show Bel w _; (repeat (first | exact Bel.refl _ | refine Bel.ext ?_ _ | refine Bel.alloc ?_ _ | refine Bel.drewN ?_ _ | refine Bel.drew ?_ | refine Bel.setCell ?_ _ _ ?_ | exact Nat.le_refl _ | (simp; done) | omega | (simp <;> omega))))⟩
end Go.Proofs.YtnnidhjmakpaeaaGreatDoor
namespace Go.Proofs.YtnnidhjmakpaeaaGreatDoor.lawDecimalOrder
open Go.ChangeShapes Go.WideShapes Go.ChangeAt Go.RowKit Go.Joins
open Go.ChangeMaps (open_string shut_string)
set_option maxRecDepth 100000 in
theorem lifted (os : Os) (started : os.Started) (H : Type) (enc : TypeId × Value → H) :
    ReturnsInHanded {} Tryz.checked os 6 .any (fun w args => (Rows.decimalOrderSpec.pre enc Tryz.prog Tryz.f6 Rows.decimalOrderRow.domain false w args ∧ laidMetH Tryz.prog Rows.decimalOrderRow.laid w) ∧ sizedMet enc Tryz.prog Tryz.f6 (OpenSpec.ofChange Rows.decimalOrderSpec) false w args)
      (Rows.decimalOrderSpec.post enc Tryz.prog Tryz.f6 false true false false) := by
  refine returnsInHanded_of_change_and (C := Tryz.checked) (X := fun w _ => laidMetH Tryz.prog Rows.decimalOrderRow.laid w) (fun _ _ _ hh h => h.of_heap hh) own started (by kernel_rfl) Tryz.func6
    (ChangeSpec.witness_shaped (enc := enc) (C := Tryz.checked) (os := os) (X := fun w _ => laidMetH Tryz.prog Rows.decimalOrderRow.laid w) false (World.laidAll Tryz.prog os Rows.decimalOrderRow.laid) #[.string .empty, .string .empty, .int .i8 0] 8 (World.laidAll_os _ _ _)
      (World.shaped_of_ZipB (by kernel_rfl) (by kernel_rfl)) (by kernel_rfl) (by kernel_rfl) (by kernel_rfl)
      (by rw [MakeChecks.laidMetH_plain _ _ _ (by kernel_rfl)]; exact laidMet_laidAll _ (by kernel_rfl) (by kernel_rfl))) ?_
  intro W base args ds gs before hval0 hW _ _ hL _
  have hval : ∀ (j : Nat) t v, Tryz.f6.params[j]? = some t → args[j]? = some v → Value.okWide Tryz.prog W .any base t v := hval0
  have hW' := hW
  obtain ⟨p, q, hA0, hV, rfl, hfz, hnd⟩ := hW
  have hA : DataW.TrodAll enc Tryz.prog W 0 (fun _ => true) true Tryz.f6.params.toList args.toList ds p := hA0
  rw [Tryz.params6] at hA hval
  obtain ⟨v0, vs0, d0, ds0, p0, q0, hargs, rfl, rfl, h0, r0⟩ := trodAll_cons hA
  obtain ⟨v1, vs1, d1, ds1, p1, q1, rfl, rfl, rfl, h1, r1⟩ := trodAll_cons r0
  obtain ⟨v2, vs2, d2, ds2, p2, q2, rfl, rfl, rfl, h2, r2⟩ := trodAll_cons r1
  obtain ⟨rfl, rfl, rfl⟩ := trodAll_nil r2
  obtain rfl : args = #[v0, v1, v2] := by cases args; simp_all
  obtain ⟨rfl, rfl⟩ := trodVars_none hV
  obtain ⟨s0, rfl, rfl, rfl, hs0⟩ := open_string Tryz.underlying9 (hval 0 9 v0 rfl rfl) h0
  obtain ⟨s1, rfl, rfl, rfl, hs1⟩ := open_string Tryz.underlying9 (hval 1 9 v1 rfl rfl) h1
  obtain ⟨z2, rfl, rfl, rfl, hz2⟩ := open_int Tryz.underlying29 (hval 2 29 v2 rfl rfl) h2
  clear hA0 hval0
  refine (decimalOrder_walk s0 s1 z2 W (by unfold maxLen at hs0; omega) (by unfold maxLen at hs1; omega) hz2).mono fun e W' ⟨he, bel⟩ => ?_
  subst he
  exact ⟨_, rfl, _, _, _, [], _, [], hW', trodAll_mk1 (shut_bool Tryz.underlying4 _), (trodAll_cons_mk (shut_string Tryz.underlying9 hs0) (trodAll_cons_mk (shut_string Tryz.underlying9 hs1) (trodAll_cons_mk (shut_int Tryz.underlying29 hz2) trodAll_mk0))), rfl, bel.frame _, fun h => by cases h⟩

theorem proved : Rows.DecimalOrderSaid :=
  OpenClaim.holds_of_wide 6 Tryz.f6 rfl rfl rfl rfl rfl rfl rfl ⟨rfl, rfl, rfl, rfl, rfl⟩ rfl rfl rfl rfl rfl (by kernel_rfl) Tryz.func6 (by kernel_rfl)
    (of_decide_eq_true (by kernel_rfl)) (by unfold Func.isWrapper; first | (rw [if_pos (by decide +kernel)]; kernel_rfl) | (rw [if_neg (by decide +kernel)]; exact ⟨rfl, rfl⟩))
    (fun os started H enc _ => lifted os started H enc)
theorem card : Rows.DecimalOrderCardSaid :=
  Claim7.holds_tied_plain_at .later [] [.data, .data, .data, .data, .sentinel, .sentinel, .pinned] true (true, "6d730b52153a4e0983bd20d12ff5f2b1e61063822b8ac0e74c71fbd9cc71914c") true proved (fun _ h => by cases h) (by kernel_rfl) (fun _ h => by cases h) decimalOrder_row_tie rfl ⟨rfl, rfl⟩ (by kernel_rfl) rfl
    (fun f fn hf hfn => by
      obtain rfl : f = 6 := Option.some.inj ((show Tryz.prog.funcNamed "calque/calquelaw07.DecimalOrder" = some 6 by kernel_rfl).symm.trans hf) |>.symm
      obtain rfl : fn = Tryz.f6 := (Option.some.inj (Tryz.func6.symm.trans hfn)).symm
      exact ⟨by kernel_rfl, fun j t ht => by
        rw [Tryz.params6] at ht
        have hm : t ∈ [9, 9, 29] := by simpa using Array.mem_of_getElem? ht
        have hall : ([9, 9, 29].all fun u => !Tryz.prog.wantsStandIn u) = true := by kernel_rfl
        exact (show Tryz.prog.wantsStandIn t = false by simpa using List.all_eq_true.1 hall t hm)⟩)
    (by kernel_rfl)
#print axioms card
end Go.Proofs.YtnnidhjmakpaeaaGreatDoor.lawDecimalOrder
