/- DateBest: Best returns the specified index or error for any patterns and skeleton; a pattern with the skeleton itself is the best one, and what is behind it does not matter. -/
import Derived.Test.YtaolbfbnjbpljaaDoorM2
import Derived.Test.YtaolbfbnjbpljaaDoorG6
import Derived.Test.YtaolbfbnjbpljaaDoorG8
import Derived.Test.YtaolbfbnjbpljaaDoorG9
import Derived.Test.YtaolbfbnjbpljaaDoorQ1
import Derived.Test.YtaolbfbnjbpljaaDoorO2
namespace Go.Proofs.YtaolbfbnjbpljaaDoor
open Go.RowKit
attribute [local go_sem] Ext.cell Ext.frozen
attribute [local go_sem ↓] Go.wp_at_zero Go.wp_at_succ

theorem fewB_facts {ps : List (List UInt8 × List UInt8)} (h : fewB ps = true) : (∀ p ∈ ps, p.1.length ≤ 1000) ∧ ps.length ≤ 40 := by
  unfold fewB at h
  rw [Bool.and_eq_true, List.all_eq_true, decide_eq_true_eq] at h
  refine ⟨fun p hp => ?_, h.2⟩
  have := h.1 p hp
  rw [Bool.and_eq_true, decide_eq_true_eq, decide_eq_true_eq] at this
  omega

set_option maxRecDepth 20000 in
set_option maxHeartbeats 16000000 in
theorem dateBest_walk (ad : Option Addr) (n c : Nat) (ps : List (List UInt8 × List UInt8)) (b off : Nat) (ad2 : Option Addr) (n2 c2 : Nat) (qs : List (List UInt8 × List UInt8)) (b2 off2 : Nat) (s : ByteArray) (w : World)
    (hp : PatAt w ad n ps b off) (hq : PatAt w ad2 n2 qs b2 off2) (hc2 : ad2 = none → c2 = 0) (hs : s.size ≤ 9223372036854775807) (ht : Tab10 w) :
    Calls Tryd.prog 5 #[.slice ad n c, .slice ad2 n2 c2, .string s] w fun e w' => e = .returned (.bool true) ∧ Below w.heap.size w w' := by
  have HA : Hid (∀ w1, Below w.heap.size w w1 → Calls Tryd.prog 15 #[] w1 fun e w' => e = .returned (.bool true) ∧ Below w1.heap.size w1 w') := fun w1 g => awake_any w1 (ht.on g)
  have HF1 : Hid (∀ w1, Below w.heap.size w w1 → Calls Tryd.prog 19 #[.slice ad n c] w1 fun e w' => e = .returned (.bool (fewB ps)) ∧ w1 = w') := fun w1 g => few_any ad n c ps b off w1 (hp.below g)
  have HF2 : Hid (∀ w1, Below w.heap.size w w1 → Calls Tryd.prog 19 #[.slice ad2 n2 c2] w1 fun e w' => e = .returned (.bool (fewB qs)) ∧ w1 = w') := fun w1 g => few_any ad2 n2 c2 qs b2 off2 w1 (hq.below g)
  have HBR : Hid (Below w.heap.size w w) := Below.refl _ _
  have HP := Lib.hid hp
  have HQ := Lib.hid hq
  have HT := Lib.hid ht
  have hnm := hp.max
  have hnm2 := hq.max
  clear hp hq ht
  cases f1 : fewB ps with
  | false =>
    rw [f1] at HF1
    clear f1 HF2 HP HQ
    go_enter Tryd.func5, Tryd.ntmps5
    go_wp2_with fail
    refine (Calls.toExt (HA.out _ HBR.out)).mono ?_
    rintro e _ ⟨rfl, x1, rfl⟩
    have HB1 := Lib.hid x1.2
    go_wp2_with fail
    refine (HF1.out _ HB1.out).mono ?_
    rintro e _ ⟨rfl, rfl⟩
    go_wp2_with fail
    refine (Calls.toExt (HA.out _ HB1.out)).mono ?_
    rintro e _ ⟨rfl, x2, rfl⟩
    have HB2 := Lib.hid (HB1.out.trans (x2.2.mono HB1.out.size))
    go_wp2_with fail
    go_ret
    exact ⟨rfl, HB2.out⟩
  | true =>
    rw [f1] at HF1
    cases f2 : fewB qs with
    | false =>
      rw [f2] at HF2
      clear f1 f2 HP HQ
      go_enter Tryd.func5, Tryd.ntmps5
      go_wp2_with fail
      refine (Calls.toExt (HA.out _ HBR.out)).mono ?_
      rintro e _ ⟨rfl, x1, rfl⟩
      have HB1 := Lib.hid x1.2
      go_wp2_with fail
      refine (HF1.out _ HB1.out).mono ?_
      rintro e _ ⟨rfl, rfl⟩
      go_wp2_with fail
      refine (HF2.out _ HB1.out).mono ?_
      rintro e _ ⟨rfl, rfl⟩
      go_wp2_with fail
      refine (Calls.toExt (HA.out _ HB1.out)).mono ?_
      rintro e _ ⟨rfl, x2, rfl⟩
      have HB2 := Lib.hid (HB1.out.trans (x2.2.mono HB1.out.size))
      go_wp2_with fail
      go_ret
      exact ⟨rfl, HB2.out⟩
    | true =>
      rw [f2] at HF2
      by_cases hs60 : 60 < s.size
      · have h1 : 60 < (s.size : Int) := by omega
        clear f1 f2 HP HQ
        go_enter Tryd.func5, Tryd.ntmps5
        go_wp2_with fail
        refine (Calls.toExt (HA.out _ HBR.out)).mono ?_
        rintro e _ ⟨rfl, x1, rfl⟩
        have HB1 := Lib.hid x1.2
        go_wp2_with fail
        refine (HF1.out _ HB1.out).mono ?_
        rintro e _ ⟨rfl, rfl⟩
        go_wp2_with fail
        refine (HF2.out _ HB1.out).mono ?_
        rintro e _ ⟨rfl, rfl⟩
        go_wp2_with fail
        refine (Calls.toExt (HA.out _ HB1.out)).mono ?_
        rintro e _ ⟨rfl, x2, rfl⟩
        have HB2 := Lib.hid (HB1.out.trans (x2.2.mono HB1.out.size))
        go_wp2_with fail
        go_ret
        exact ⟨rfl, HB2.out⟩
      · have h1 : ¬ 60 < (s.size : Int) := by omega
        have hs2 : s.size ≤ 60 := by omega
        clear hs60
        obtain ⟨g1, g2⟩ := fewB_facts f1
        obtain ⟨k1, k2⟩ := fewB_facts f2
        have hn40 : n ≤ 40 := by rw [← HP.out.len]; exact g2
        have hn40' : n2 ≤ 40 := by rw [← HQ.out.len]; exact k2
        have HB : Hid (∀ w1, Below w.heap.size w w1 → Calls Tryd.prog 20 #[.slice ad n c, .string s] w1 fun e w' => e = .returned (.tuple #[.int .i64 (bestV ps s.data.toList).1, .int .i64 ((bestV ps s.data.toList).2 : Nat)]) ∧ Below w1.heap.size w1 w') := fun w1 g =>
          best_any ad n c ps b off s w1 (HP.out.below g) (by omega) g1
        have HR : Hid (∀ w1, Below w.heap.size w w1 → Calls Tryd.prog 21 #[.slice ad n c, .string s] w1 fun e w' => e = .returned (.tuple #[.int .i64 (bestV ps s.data.toList).1, .int .i64 ((bestV ps s.data.toList).2 : Nat)]) ∧ Below w1.heap.size w1 w') := fun w1 g =>
          rbest_any ad n c ps b off s w1 (HP.out.below g) (by omega) g1
        have HG1 := Lib.hid g1
        have HK1 := Lib.hid k1
        clear f1 f2 g1 g2 k1 k2
        rcases bestV_err ps s.data.toList with ⟨he, want, hw⟩ | he | he
        · have HW := Lib.hid hw
          have HE := Lib.hid he
          rw [he] at HB HR
          clear he hw
          obtain ⟨i0, hi0⟩ : ∃ i0, (bestV ps s.data.toList).1 = i0 := ⟨_, rfl⟩
          have HI0 := Lib.hid hi0
          rw [hi0] at HB HR
          clear hi0
          go_enter Tryd.func5, Tryd.ntmps5
          go_wp2_with fail
          refine (Calls.toExt (HA.out _ HBR.out)).mono ?_
          rintro e _ ⟨rfl, x1, rfl⟩
          have HB1 := Lib.hid x1.2
          go_wp2_with fail
          refine (HF1.out _ HB1.out).mono ?_
          rintro e _ ⟨rfl, rfl⟩
          go_wp2_with fail
          refine (HF2.out _ HB1.out).mono ?_
          rintro e _ ⟨rfl, rfl⟩
          go_wp2_with fail
          refine (Calls.toExt (HB.out _ HB1.out)).mono ?_
          rintro e _ ⟨rfl, x2, rfl⟩
          have HB2 := Lib.hid (HB1.out.trans (x2.2.mono HB1.out.size))
          go_wp2_with fail
          refine (Calls.toExt (HR.out _ HB2.out)).mono ?_
          rintro e _ ⟨rfl, x3, rfl⟩
          have HB3 := Lib.hid (HB2.out.trans (x3.2.mono HB2.out.size))
          go_wp2_with fail
          obtain ⟨X, hX⟩ := x3
          simp only at HB3 ⊢
          clear hX
          have hzX := HB3.out.size
          go_loopw [56] (fun v wr => ∃ k : Nat, v = .int .i64 (k : Int) ∧ k ≤ n ∧ (∀ i, i < k → (ps.getD i ([], [])).1 ≠ s.data.toList) ∧ wr = X) (fun v _ => n - (intOf v).toNat)
          case atStart => exact ⟨0, rfl, Nat.zero_le _, fun i hi => absurd hi (Nat.not_lt_zero _), rfl⟩
          case round =>
            obtain ⟨k, rfl, hkn, hbf, rfl⟩ := hrel
            have HBF := Lib.hid hbf
            clear hbf
            have HPX := Lib.hid (HP.out.below HB3.out)
            have HQX := Lib.hid (HQ.out.below HB3.out)
            by_cases hlt : k < n
            · have hix := fun W => HPX.out.ix (c := c) hlt W
              have h0 := HPX.out.c0 k hlt
              by_cases he : (ps.getD k ([], [])).1 = s.data.toList
              · have HBV := Lib.hid (bestV_first HW.out ps (by rw [HP.out.len]; exact hlt) he HBF.out)
                have HBM := Lib.hid (bestV_more HW.out ps qs (by rw [HP.out.len]; exact hlt) he HBF.out)
                have hik : i0 = (k : Int) := by rw [← HI0.out, HBV.out]
                subst hik
                rw [he] at h0
                have hss : bs s.data.toList = s := rfl
                rw [hss] at h0
                clear he hss HI0
                obtain rfl : ad = some ⟨b, off, none⟩ := HP.out.adr (by omega)
                have HOV : Hid ((wr.alloc (.cells #[] 39)).ownsRow wr.heap.size 39 2 (.slice (some ⟨wr.heap.size, 0, none⟩) 0 0) 0 []) :=
                  ⟨rfl, .inr ⟨wr.heap.size, 0, #[], rfl, Nat.le_refl _, by show (wr.heap.push _)[wr.heap.size]? = some _; simp, Nat.le_refl _, by unfold maxLen; omega, rfl, rfl⟩⟩
                have HAL : Hid (Below wr.heap.size wr (wr.alloc (.cells #[] 39))) := (Below.refl _ _).alloc (Nat.le_refl _) _
                have HPA := Lib.hid (HPX.out.below HAL.out)
                have HC2 := Lib.hid hc2
                clear hc2
                go_wp2_with (first | (at_builtin; refine app_pats rfl (.tmp 67) (.tmp 68) rfl wr.heap.size _ 0 0 [] rfl HOV.out _ n c ps b off rfl HPA.out (fun h => by cases h) (by omega) (by simp) ?_; intro ad5 c5 w5 hown5 hb5; rw [Nat.zero_add, List.nil_append] at hown5; have HOWN5 := Lib.hid hown5; have HB5 := Lib.hid (HAL.out.trans hb5); have HQ5 := Lib.hid (HQX.out.below HB5.out); clear hown5 hb5) | (at_builtin; refine app_pats rfl (.tmp 69) (.tmp 70) rfl wr.heap.size ad5 n c5 (patCells ps) rfl HOWN5.out ad2 n2 c2 qs b2 off2 rfl HQ5.out HC2.out (by omega) HB5.out.size ?_; intro ad6 c6 w6 hown6 hb6; have HOWN6 := Lib.hid hown6; have HB6 := Lib.hid (HB5.out.trans hb6); clear hown6 hb6))
                obtain ⟨g6, hp6⟩ := own_pat (show w6.ownsRow wr.heap.size 39 2 (.slice ad6 (n + n2) c6) (n + n2) (patCells (ps ++ qs)) by rw [patCells_app]; exact HOWN6.out)
                have HC6 := Lib.hid (best_any ad6 (n + n2) c6 (ps ++ qs) g6 0 s w6 hp6 (by omega) (fun p hp => (List.mem_append.1 hp).elim (HG1.out p) (HK1.out p)))
                rw [HBM.out] at HC6
                have hbk := HPX.out.block (show n ≠ 0 by omega)
                have h6 : w6.cell? ⟨b, off + k * 2, none⟩ = some (.string s) := (HB6.out.cell (p := ⟨b, off + k * 2, none⟩) hbk).trans h0
                have hb6 : b < w6.heap.size := by have := HB6.out.size; omega
                clear hp6 h0
                refine (Calls.toExt HC6.out).mono ?_
                rintro e _ ⟨rfl, y, rfl⟩
                go_wp2_with fail
                go_ret
                exact ⟨rfl, HB3.out.trans ((HB6.out.trans (y.2.mono HB6.out.size)).mono hzX)⟩
              · have HBF2 : Hid (∀ i, i < k + 1 → (ps.getD i ([], [])).1 ≠ s.data.toList) := fun i hi => by
                  rcases Nat.lt_or_ge i k with h | h
                  · exact HBF.out i h
                  · rw [show i = k by omega]; exact he
                have hne : ((bs (ps.getD k ([], [])).1).toList == s.toList) = false := by
                  rw [bs_toList, ByteArray.toList_eq, beq_eq_false_iff_ne]; exact he
                clear he
                generalize bs (ps.getD k ([], [])).1 = PB at *
                go_wp2_with fail
                go_roundw
                case rel => exact ⟨k + 1, by go_num, by omega, HBF2.out, trivial⟩
                case measure => simp [intOf]; omega
            · obtain rfl : k = n := by omega
              go_wp2_with fail
              go_ret
              exact ⟨rfl, HB3.out⟩
        · rw [he] at HB HR
          clear he
          generalize (bestV ps s.data.toList).1 = i0 at *
          go_enter Tryd.func5, Tryd.ntmps5
          go_wp2_with fail
          refine (Calls.toExt (HA.out _ HBR.out)).mono ?_
          rintro e _ ⟨rfl, x1, rfl⟩
          have HB1 := Lib.hid x1.2
          go_wp2_with fail
          refine (HF1.out _ HB1.out).mono ?_
          rintro e _ ⟨rfl, rfl⟩
          go_wp2_with fail
          refine (HF2.out _ HB1.out).mono ?_
          rintro e _ ⟨rfl, rfl⟩
          go_wp2_with fail
          refine (Calls.toExt (HB.out _ HB1.out)).mono ?_
          rintro e _ ⟨rfl, x2, rfl⟩
          have HB2 := Lib.hid (HB1.out.trans (x2.2.mono HB1.out.size))
          go_wp2_with fail
          refine (Calls.toExt (HR.out _ HB2.out)).mono ?_
          rintro e _ ⟨rfl, x3, rfl⟩
          have HB3 := Lib.hid (HB2.out.trans (x3.2.mono HB2.out.size))
          go_wp2_with fail
          go_ret
          exact ⟨rfl, HB3.out⟩
        · rw [he] at HB HR
          clear he
          generalize (bestV ps s.data.toList).1 = i0 at *
          go_enter Tryd.func5, Tryd.ntmps5
          go_wp2_with fail
          refine (Calls.toExt (HA.out _ HBR.out)).mono ?_
          rintro e _ ⟨rfl, x1, rfl⟩
          have HB1 := Lib.hid x1.2
          go_wp2_with fail
          refine (HF1.out _ HB1.out).mono ?_
          rintro e _ ⟨rfl, rfl⟩
          go_wp2_with fail
          refine (HF2.out _ HB1.out).mono ?_
          rintro e _ ⟨rfl, rfl⟩
          go_wp2_with fail
          refine (Calls.toExt (HB.out _ HB1.out)).mono ?_
          rintro e _ ⟨rfl, x2, rfl⟩
          have HB2 := Lib.hid (HB1.out.trans (x2.2.mono HB1.out.size))
          go_wp2_with fail
          refine (Calls.toExt (HR.out _ HB2.out)).mono ?_
          rintro e _ ⟨rfl, x3, rfl⟩
          have HB3 := Lib.hid (HB2.out.trans (x3.2.mono HB2.out.size))
          go_wp2_with fail
          go_ret
          exact ⟨rfl, HB3.out⟩
end Go.Proofs.YtaolbfbnjbpljaaDoor
namespace Go.Proofs.YtaolbfbnjbpljaaDoor.lawDateBest
open Go.ChangeShapes Go.WideShapes Go.ChangeAt Go.RowKit Go.Joins
open Go.ChangeMaps (open_string shut_string)
set_option maxRecDepth 100000 in
theorem lifted (os : Os) (started : os.Started) (H : Type) (enc : TypeId × Value → H) :
    ReturnsInHanded {} Tryd.checked os 5 .any (fun w args => (Rows.dateBestSpec.pre enc Tryd.prog Tryd.f5 Rows.dateBestRow.domain false w args ∧ laidMetH Tryd.prog Rows.dateBestRow.laid w) ∧ sizedMet enc Tryd.prog Tryd.f5 (OpenSpec.ofChange Rows.dateBestSpec) false w args)
      (Rows.dateBestSpec.post enc Tryd.prog Tryd.f5 false true false false) := by
  refine returnsInHanded_of_change_and (C := Tryd.checked) (X := fun w _ => laidMetH Tryd.prog Rows.dateBestRow.laid w) (fun _ _ _ hh h => h.of_heap hh) own started (by kernel_rfl) Tryd.func5
    (ChangeSpec.witness_shaped (enc := enc) (C := Tryd.checked) (os := os) (X := fun w _ => laidMetH Tryd.prog Rows.dateBestRow.laid w) false (World.laidAll Tryd.prog os Rows.dateBestRow.laid) #[.slice none 0 0, .slice none 0 0, .string .empty] 8 (World.laidAll_os _ _ _)
      (World.shaped_of_ZipB (by kernel_rfl) (by kernel_rfl)) (by kernel_rfl) (by kernel_rfl) (by kernel_rfl)
      (by rw [MakeChecks.laidMetH_plain _ _ _ (by kernel_rfl)]; exact laidMet_laidAll _ (by kernel_rfl) (by kernel_rfl))) ?_
  intro W base args ds gs before hval0 hW _ _ hL _
  have hval : ∀ (j : Nat) t v, Tryd.f5.params[j]? = some t → args[j]? = some v → Value.okWide Tryd.prog W .any base t v := hval0
  have hW' := hW
  obtain ⟨p, q, hA0, hV, rfl, hfz, hnd⟩ := hW
  have hA : DataW.TrodAll enc Tryd.prog W 0 (fun _ => true) true Tryd.f5.params.toList args.toList ds p := hA0
  rw [Tryd.params5] at hA hval
  obtain ⟨v0, vs0, d0, ds0, p0, q0, hargs, rfl, rfl, h0, r0⟩ := trodAll_cons hA
  obtain ⟨v1, vs1, d1, ds1, p1, q1, rfl, rfl, rfl, h1, r1⟩ := trodAll_cons r0
  obtain ⟨v2, vs2, d2, ds2, p2, q2, rfl, rfl, rfl, h2, r2⟩ := trodAll_cons r1
  obtain ⟨rfl, rfl, rfl⟩ := trodAll_nil r2
  obtain rfl : args = #[v0, v1, v2] := by cases args; simp_all
  obtain ⟨rfl, rfl⟩ := trodVars_none hV
  have k0 := h0
  have lt0 : ∀ x ∈ p0, x.block < W.heap.size := by obtain ⟨m, hm⟩ := k0; exact DataW.trod_lt m _ _ _ hm
  obtain ⟨a0, l0, cp0, rfl⟩ := okWide_slice Tryd.underlying35 (hval 0 35 v0 rfl rfl)
  obtain ⟨fuel0, hf0⟩ := h0
  obtain ⟨ad0, n0, c0, ps0, b0, off0, e0, hp0, hc0⟩ := open_pats (by simpa [Value.cells] using hf0)
  injection e0 with e01 e02 e03
  subst e01 e02 e03
  have k1 := h1
  have lt1 : ∀ x ∈ p1, x.block < W.heap.size := by obtain ⟨m, hm⟩ := k1; exact DataW.trod_lt m _ _ _ hm
  obtain ⟨a1, l1, cp1, rfl⟩ := okWide_slice Tryd.underlying35 (hval 1 35 v1 rfl rfl)
  obtain ⟨fuel1, hf1⟩ := h1
  obtain ⟨ad1, n1, c1, ps1, b1, off1, e1, hp1, hc1⟩ := open_pats (by simpa [Value.cells] using hf1)
  injection e1 with e11 e12 e13
  subst e11 e12 e13
  obtain ⟨s2, rfl, rfl, rfl, hs2⟩ := open_string Tryd.underlying9 (hval 2 9 v2 rfl rfl) h2
  clear hA0 hval0
  refine (dateBest_walk a0 l0 cp0 ps0 b0 off0 a1 l1 cp1 ps1 b1 off1 s2 W hp0 hp1 hc1 (by unfold maxLen at hs2; omega) (tab10_of (by kernel_rfl) hL)).mono fun e W' ⟨he, bel⟩ => ?_
  subst he
  exact ⟨_, rfl, _, _, _, [], _, [], hW', trodAll_mk1 (shut_bool Tryd.underlying4 _), (trodAll_cons_mk (Below.trod laidOut (by kernel_rfl) (of_decide_eq_true (by kernel_rfl)) k0 bel lt0) (trodAll_cons_mk (Below.trod laidOut (by kernel_rfl) (of_decide_eq_true (by kernel_rfl)) k1 bel lt1) (trodAll_cons_mk (shut_string Tryd.underlying9 hs2) trodAll_mk0))), rfl, bel.frame _, fun h => by cases h⟩
theorem proved : Rows.DateBestSaid :=
  OpenClaim.holds_of_wide 5 Tryd.f5 rfl rfl rfl rfl rfl rfl rfl ⟨rfl, rfl, rfl, rfl, rfl⟩ rfl rfl rfl rfl rfl (by kernel_rfl) Tryd.func5 (by kernel_rfl)
    (of_decide_eq_true (by kernel_rfl)) (by unfold Func.isWrapper; first | (rw [if_pos (by decide +kernel)]; kernel_rfl) | (rw [if_neg (by decide +kernel)]; exact ⟨rfl, rfl⟩))
    (fun os started H enc _ => lifted os started H enc)
theorem card : Rows.DateBestCardSaid :=
  Claim7.holds_tied_plain_at .later [] [.data, .data, .data, .data, .pinned] true (true, "187b34c1a1a2553ab751f702c962cfae9e185c0428888ad6df30cb1be956878b") false proved (fun _ h => by cases h) (by kernel_rfl) (fun _ h => by cases h) dateBest_row_tie rfl ⟨rfl, rfl⟩ (by kernel_rfl) rfl
    (fun f fn hf hfn => by
      obtain rfl : f = 5 := Option.some.inj ((show Tryd.prog.funcNamed "calque/calquelaw18.DateBest" = some 5 by kernel_rfl).symm.trans hf) |>.symm
      obtain rfl : fn = Tryd.f5 := (Option.some.inj (Tryd.func5.symm.trans hfn)).symm
      exact ⟨by kernel_rfl, fun j t ht => by
        rw [Tryd.params5] at ht
        have hm : t ∈ [35, 35, 9] := by simpa using Array.mem_of_getElem? ht
        have hall : ([35, 35, 9].all fun u => !Tryd.prog.wantsStandIn u) = true := by kernel_rfl
        exact (show Tryd.prog.wantsStandIn t = false by simpa using List.all_eq_true.1 hall t hm)⟩)
    (by kernel_rfl)
#print axioms card
end Go.Proofs.YtaolbfbnjbpljaaDoor.lawDateBest
