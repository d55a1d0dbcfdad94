/- Walks: Shift by the reference. -/
import Derived.Test.YtnnidhjmakpaeaaDoorW13
namespace Go.Proofs.YtnnidhjmakpaeaaDoor
open Go.RowKit
attribute [local go_sem] Ext.cell Ext.frozen
attribute [local go_sem ↓] Go.wp_at_zero Go.wp_at_succ

set_option maxRecDepth 20000 in
set_option maxHeartbeats 40000000 in
theorem rshift_any (s : ByteArray) (n : Int) (w : World) (hs : s.size ≤ 1000) (hwf : (Lit.int .i64 n).wf = true) :
    Calls Tryd.prog 12 #[.string s, .int .i64 n] w fun e w' => e = .returned (.tuple #[.string (bs (rshiftD s.data.toList n).1), .int .i64 ((rshiftD s.data.toList n).2 : Nat)]) ∧ Below w.heap.size w w' := by
  have hlim : -9223372036854775808 ≤ n ∧ n ≤ 9223372036854775807 := by simp [Lit.wf, IntKind.min, IntKind.max, IntKind.signed, IntKind.bits] at hwf; omega
  clear hwf
  have HS := Lib.hid (fun w => rsplit_any s w hs)
  cases ho : dOk s.data.toList with
  | false =>
    have HSH : Hid (rshiftD s.data.toList n = ([], 1)) := by unfold Hid rshiftD; rw [if_pos ho]
    rw [ho, RS_no rfl] at HS
    clear ho
    go_enter Tryd.func12, Tryd.ntmps12
    go_wp2_with fail
    refine (Calls.toExt (HS.out _)).mono ?_
    rintro e _ ⟨rfl, x, rfl⟩
    go_wp2_with fail
    go_ret2
    exact ⟨by rw [HSH.out]; rfl, by (show Bel w _; (repeat (first | exact Bel.refl _ | refine Bel.ext ?_ _ | refine Bel.alloc ?_ _ | refine Bel.drewN ?_ _ | refine Bel.drew ?_ | refine Bel.setCell ?_ _ _ ?_ | exact Nat.le_refl _ | (simp; done) | omega | (simp <;> omega))))⟩
  | true =>
    obtain ⟨ha, hf, hda, hdf, ha1⟩ := split_ok_facts ho
    have HZ := Lib.hid (fun w => rzero_any (bs (dWhole s.data.toList) ++ bs (dFrac s.data.toList)) w (by rw [ByteArray.size_append]; omega))
    rw [app_data, allZ_append, bs_data, bs_data] at HZ
    have HSH : Hid (rshiftD s.data.toList n = if n < -6 ∨ (21 < n ∧ (allZ (dWhole s.data.toList) && allZ (dFrac s.data.toList)) = false) then ([], 2)
        else permD (dNeg s.data.toList) (leadD ((rAll (dWhole s.data.toList) (dFrac s.data.toList) (min n 30)).take ((rAll (dWhole s.data.toList) (dFrac s.data.toList) (min n 30)).length - (((dFrac s.data.toList).length : Int) - min n 30).toNat)))
          ((rAll (dWhole s.data.toList) (dFrac s.data.toList) (min n 30)).drop ((rAll (dWhole s.data.toList) (dFrac s.data.toList) (min n 30)).length - (((dFrac s.data.toList).length : Int) - min n 30).toNat))) := by
      unfold Hid rshiftD; rw [if_neg (by rw [ho]; simp)]
    rw [ho, RS_yes rfl] at HS
    clear ho hda hdf
    generalize hzz : (allZ (dWhole s.data.toList) && allZ (dFrac s.data.toList)) = zz at *
    clear hzz
    by_cases h6 : n < -6
    · have HSH2 : Hid (rshiftD s.data.toList n = ([], 2)) := by unfold Hid; rw [HSH.out, if_pos (.inl h6)]
      go_enter Tryd.func12, Tryd.ntmps12
      go_wp2_with fail
      refine (Calls.toExt (HS.out _)).mono ?_
      rintro e _ ⟨rfl, x, rfl⟩
      go_wp2_with fail
      go_ret2
      exact ⟨by rw [HSH2.out]; rfl, by (show Bel w _; (repeat (first | exact Bel.refl _ | refine Bel.ext ?_ _ | refine Bel.alloc ?_ _ | refine Bel.drewN ?_ _ | refine Bel.drew ?_ | refine Bel.setCell ?_ _ _ ?_ | exact Nat.le_refl _ | (simp; done) | omega | (simp <;> omega))))⟩
    · by_cases h21 : 21 < n ∧ zz = false
      · have HSH2 : Hid (rshiftD s.data.toList n = ([], 2)) := by unfold Hid; rw [HSH.out, if_pos (.inr h21)]
        obtain ⟨h21, rfl⟩ := h21
        go_enter Tryd.func12, Tryd.ntmps12
        go_wp2_with fail
        refine (Calls.toExt (HS.out _)).mono ?_
        rintro e _ ⟨rfl, x, rfl⟩
        go_wp2_with fail
        refine (HZ.out _).mono ?_
        rintro e _ ⟨rfl, rfl⟩
        go_wp2_with fail
        go_ret2
        exact ⟨by rw [HSH2.out]; rfl, by (show Bel w _; (repeat (first | exact Bel.refl _ | refine Bel.ext ?_ _ | refine Bel.alloc ?_ _ | refine Bel.drewN ?_ _ | refine Bel.drew ?_ | refine Bel.setCell ?_ _ _ ?_ | exact Nat.le_refl _ | (simp; done) | omega | (simp <;> omega))))⟩
      · have hsh := HSH.out
        rw [if_neg (by rintro (h | h); · exact h6 h
                       · exact h21 h)] at hsh
        clear HSH
        generalize dNeg s.data.toList = ng at *
        obtain ⟨n1, hn1⟩ : ∃ n1, min n 30 = n1 := ⟨_, rfl⟩
        rw [hn1] at hsh
        have hn1b : -6 ≤ n1 ∧ n1 ≤ 30 := by omega
        obtain ⟨k, hk⟩ : ∃ k : Int, ((dFrac s.data.toList).length : Int) - n1 = k := ⟨_, rfl⟩
        have hk2 : n1 - ((dFrac s.data.toList).length : Int) = -k := by omega
        unfold rAll at hsh
        rw [hk, hk2] at hsh
        have hfs : (bs (dFrac s.data.toList)).size = (dFrac s.data.toList).length := bs_size _
        rw [← hfs] at hk
        have hkb : -30 ≤ k ∧ k ≤ 12 := by omega
        have HZ1 : Hid (∀ w, Calls Tryd.prog 32 #[.int .i64 k] w fun e w' => e = .returned (.string (bs (List.replicate k.toNat 48))) ∧ w = w') := fun w => rzeros_any k w (by omega)
        have HZ2 : Hid (∀ w, Calls Tryd.prog 32 #[.int .i64 (-k)] w fun e w' => e = .returned (.string (bs (List.replicate (-k).toNat 48))) ∧ w = w') := fun w => rzeros_any (-k) w (by omega)
        have hz1 : (bs (List.replicate k.toNat 48)).size = k.toNat := by rw [bs_size, List.length_replicate]
        have hz2 : (bs (List.replicate (-k).toNat 48)).size = (-k).toNat := by rw [bs_size, List.length_replicate]
        have e1 : List.replicate k.toNat 48 = (bs (List.replicate k.toNat 48)).data.toList := rfl
        have e2 : List.replicate (-k).toNat 48 = (bs (List.replicate (-k).toNat 48)).data.toList := rfl
        have e3 : dWhole s.data.toList = (bs (dWhole s.data.toList)).data.toList := rfl
        have e4 : dFrac s.data.toList = (bs (dFrac s.data.toList)).data.toList := rfl
        rw [e1, e2, e3, e4] at hsh
        clear e1 e2 e3 e4 hk2 hfs
        generalize bs (List.replicate k.toNat 48) = z1 at *
        generalize bs (List.replicate (-k).toNat 48) = z2 at *
        generalize bs (dWhole s.data.toList) = a at *
        generalize bs (dFrac s.data.toList) = f at *
        rw [← app_data, ← app_data, ← app_data] at hsh
        have has : (z1 ++ a ++ f ++ z2).size = k.toNat + a.size + f.size + (-k).toNat := by simp only [ByteArray.size_append, hz1, hz2]
        have hz1b : z1.size ≤ 12 := by omega
        have hz2b : z2.size ≤ 30 := by omega
        obtain ⟨al, hal⟩ : ∃ al, z1 ++ a ++ f ++ z2 = al := ⟨_, rfl⟩
        rw [hal, size_len] at hsh
        rw [hal] at has
        obtain ⟨kp, hkp⟩ : ∃ kp : Nat, k.toNat = kp := ⟨_, rfl⟩
        have hmx : max 0 k = (kp : Int) := by omega
        rw [hkp] at hsh
        have hkl : kp ≤ al.size := by omega
        have hall : al.size ≤ 100 := by omega
        have d1 : al.data.toList.take (al.size - kp) = (al.extract 0 (al.size - kp)).data.toList := by rw [ext_data, List.drop_zero]
        have d2 : al.data.toList.drop (al.size - kp) = (al.extract (al.size - kp) al.size).data.toList := by rw [ext_data, List.take_of_length_le (by rw [size_len]; exact Nat.le_refl _)]
        rw [d1, d2] at hsh
        have HP := Lib.hid (fun w => checked_any ng (al.extract 0 (al.size - kp)) (al.extract (al.size - kp) al.size) w (by rw [ByteArray.size_extract]; omega) (by rw [ByteArray.size_extract]; omega))
        have HSH := Lib.hid hsh
        clear hsh d1 d2 hkp has hz1 hz2
        generalize permD ng (leadD (al.extract 0 (al.size - kp)).data.toList) (al.extract (al.size - kp) al.size).data.toList = pv at *
        rcases (show n ≤ 21 ∨ (21 < n ∧ zz = true) by
          by_cases h : n ≤ 21
          · exact .inl h
          · refine .inr ⟨by omega, ?_⟩
            cases zz with
            | true => rfl
            | false => exact absurd ⟨by omega, rfl⟩ h21) with hA | ⟨hA, rfl⟩
        · clear h21
          go_enter Tryd.func12, Tryd.ntmps12
          go_wp2_with fail
          refine (Calls.toExt (HS.out _)).mono ?_
          rintro e _ ⟨rfl, x, rfl⟩
          go_wp2_with fail
          refine wp_region_ext (by kernel_rfl) (by kernel_rfl) ?_
          repeat (go_big_quiet_step ((go_at_call 32; (first | ((with_reducible refine Calls.ext_same (HZ1.out _))) | ((with_reducible refine Calls.ext_same (HZ2.out _)))))))
          refine wpQuiet_nil ?_
          intro _ hw'
          obtain ⟨y, hw''⟩ := hw'
          subst hw''
          have hxw : w.heap.size ≤ x.1.heap.size := by have := x.2.size; (try simp at this); omega
          have hzy : x.1.heap.size < y.1.heap.size := by have := y.2.size; (try simp at this); omega
          go_wp2_with fail
          have g1 : IntKind.i64.wrap ((al.size : Int) - (kp : Int)) = (al.size : Int) - (kp : Int) := by rw [IntKind.wrap_i64]; omega
          have g2 : 0 ≤ (al.size : Int) - (kp : Int) := by omega
          have g3 : ((al.size : Int) - (kp : Int)).toNat = al.size - kp := by omega
          have g4 : (al.size : Int) - (kp : Int) ≤ (al.size : Int) := by omega
          go_region_with (fail)
          all_goals
            clear g1 g2 g3 g4
            go_wp2_with fail
            refine (Calls.toExt (HP.out _)).mono ?_
            rintro e _ ⟨rfl, u, rfl⟩
            go_wp2_with fail
            go_ret2
            exact ⟨by rw [HSH.out]; rfl, by (show Bel w _; (repeat (first | exact Bel.refl _ | refine Bel.ext ?_ _ | refine Bel.alloc ?_ _ | refine Bel.drewN ?_ _ | refine Bel.drew ?_ | refine Bel.setCell ?_ _ _ ?_ | exact Nat.le_refl _ | (simp; done) | omega | (simp <;> omega))))⟩
        · clear h21
          go_enter Tryd.func12, Tryd.ntmps12
          go_wp2_with fail
          refine (Calls.toExt (HS.out _)).mono ?_
          rintro e _ ⟨rfl, x, rfl⟩
          go_wp2_with fail
          refine (HZ.out _).mono ?_
          rintro e _ ⟨rfl, rfl⟩
          go_wp2_with fail
          refine wp_region_ext (by kernel_rfl) (by kernel_rfl) ?_
          repeat (go_big_quiet_step ((go_at_call 32; (first | ((with_reducible refine Calls.ext_same (HZ1.out _))) | ((with_reducible refine Calls.ext_same (HZ2.out _)))))))
          refine wpQuiet_nil ?_
          intro _ hw'
          obtain ⟨y, hw''⟩ := hw'
          subst hw''
          have hxw : w.heap.size ≤ x.1.heap.size := by have := x.2.size; (try simp at this); omega
          have hzy : x.1.heap.size < y.1.heap.size := by have := y.2.size; (try simp at this); omega
          go_wp2_with fail
          have g1 : IntKind.i64.wrap ((al.size : Int) - (kp : Int)) = (al.size : Int) - (kp : Int) := by rw [IntKind.wrap_i64]; omega
          have g2 : 0 ≤ (al.size : Int) - (kp : Int) := by omega
          have g3 : ((al.size : Int) - (kp : Int)).toNat = al.size - kp := by omega
          have g4 : (al.size : Int) - (kp : Int) ≤ (al.size : Int) := by omega
          go_region_with (fail)
          all_goals
            clear g1 g2 g3 g4
            go_wp2_with fail
            refine (Calls.toExt (HP.out _)).mono ?_
            rintro e _ ⟨rfl, u, rfl⟩
            go_wp2_with fail
            go_ret2
            exact ⟨by rw [HSH.out]; rfl, by (show Bel w _; (repeat (first | exact Bel.refl _ | refine Bel.ext ?_ _ | refine Bel.alloc ?_ _ | refine Bel.drewN ?_ _ | refine Bel.drew ?_ | refine Bel.setCell ?_ _ _ ?_ | exact Nat.le_refl _ | (simp; done) | omega | (simp <;> omega))))⟩
end Go.Proofs.YtnnidhjmakpaeaaDoor
