/- Walks: Shift by the program, upwards. -/
import Derived.Test.YtnnidhjmakpaeaaGreatDoorW10
namespace Go.Proofs.YtnnidhjmakpaeaaGreatDoor
open Go.RowKit
attribute [local go_sem] Ext.cell Ext.frozen
attribute [local go_sem ↓] Go.wp_at_zero Go.wp_at_succ

set_option maxRecDepth 20000 in
set_option maxHeartbeats 100000000 in
theorem shift_up (s : ByteArray) (n0 : Int) (n : Nat) (w : World) (hs : s.size ≤ 1000) (ho : dOk s.data.toList = true) (hn : max (min n0 40) (-40) = (n : Int)) :
    Calls Tryz.prog 12 #[.string s, .int .i64 n0] w fun e w' => e = .returned (.tuple #[.string (bs (shiftD s.data.toList n0).1), .int .i64 ((shiftD s.data.toList n0).2 : Nat)]) ∧ Below w.heap.size w w' := by
  have HS := Lib.hid (fun w => split_any s w hs)
  obtain ⟨ha, hf, hda, hdf, _⟩ := split_ok_facts ho
  have hn40 : n ≤ 40 := by omega
  have HSH : Hid (shiftD s.data.toList n0 = permD (dNeg s.data.toList) (shW (dWhole s.data.toList) (dFrac s.data.toList) n) (shF (dWhole s.data.toList) (dFrac s.data.toList) n)) := by
    unfold Hid shiftD; rw [if_neg (by rw [ho]; simp), hn]
  rw [ho] at HS
  clear ho hda hdf
  have HWF : Hid (shW (dWhole s.data.toList) (dFrac s.data.toList) n = trimmedD (dWhole s.data.toList ++ (dFrac s.data.toList ++ List.replicate n 48).take n) ∧ shF (dWhole s.data.toList) (dFrac s.data.toList) n = (dFrac s.data.toList).drop (min n (dFrac s.data.toList).length)) := by
    unfold Hid shW shF
    rw [if_pos (by omega), if_pos (by omega)]
    exact ⟨rfl, rfl⟩
  rw [HWF.out.1, HWF.out.2] at HSH
  clear HWF
  generalize dNeg s.data.toList = ng at *
  have HA : Hid ((bs (dWhole s.data.toList)).data.toList = dWhole s.data.toList) := rfl
  have HF : Hid ((bs (dFrac s.data.toList)).data.toList = dFrac s.data.toList) := rfl
  rw [← HA.out, ← HF.out, size_len] at HSH
  clear HA HF
  generalize bs (dWhole s.data.toList) = a at *
  generalize bs (dFrac s.data.toList) = f at *
  have HR := Lib.hid (fun w => repeat_any n w (by omega))
  have hzr : (bs (List.replicate n 48)).size = n := by rw [bs_size, List.length_replicate]
  have HZR := Lib.hid hzr
  have HBD : Hid ((bs (List.replicate n 48)).data.toList = List.replicate n 48) := rfl
  rw [← HBD.out] at HSH
  clear HBD
  generalize bs (List.replicate n 48) = z at *
  have hzs : z.size ≤ 40 := by omega
  have hzn : n ≤ z.size := by omega
  clear hzr
  obtain ⟨fz, hfz, hfzd, hfzs⟩ : ∃ fz, f ++ z = fz ∧ fz.data.toList = f.data.toList ++ z.data.toList ∧ fz.size = f.size + z.size :=
    ⟨_, rfl, app_data _ _, by rw [ByteArray.size_append]⟩
  have hfz1 : (n : Int) ≤ (fz.size : Int) := by omega
  have hfz0 : (0 : Int) ≤ (n : Int) := by omega
  have hfz2 : fz.size ≤ 100 := by omega
  have HTR := Lib.hid (fun w => trimmed_any (a ++ fz.extract 0 n) w)
  have HTL : Hid (bs (trimmedD (a ++ fz.extract 0 n).data.toList) = bs (trimmedD (a.data.toList ++ (f.data.toList ++ z.data.toList).take n))) := by
    rw [Hid, app_data, ext_data, hfzd, List.drop_zero]
  rw [HTL.out] at HTR
  clear hfzd hfzs
  have HTS : (bs (trimmedD (a.data.toList ++ (f.data.toList ++ z.data.toList).take n))).size ≤ 1000 := by
    rw [bs_size]
    unfold trimmedD
    split
    · simp
    · have := (List.dropWhile_sublist (fun x => [48].contains x) (l := a.data.toList ++ (f.data.toList ++ z.data.toList).take n)).length_le
      unfold Lib.trimLeftS
      rw [List.length_append, List.length_take, size_len] at this
      omega
  have HTD : Hid ((bs (trimmedD (a.data.toList ++ (f.data.toList ++ z.data.toList).take n))).data.toList = trimmedD (a.data.toList ++ (f.data.toList ++ z.data.toList).take n)) := rfl
  rw [← HTD.out] at HSH
  clear HTD HTL
  generalize bs (trimmedD (a.data.toList ++ (f.data.toList ++ z.data.toList).take n)) = t at *
  obtain ⟨mn, hmn⟩ : ∃ mn : Nat, min n f.size = mn := ⟨_, rfl⟩
  have hmin : min (n : Int) (f.size : Int) = (mn : Int) := by omega
  have hm0 : (0 : Int) ≤ (mn : Int) := by omega
  have hm1 : (mn : Int) ≤ (f.size : Int) := by omega
  rw [hmn] at HSH
  have hfx : ∃ fr, f.extract mn f.size = fr ∧ fr.data.toList = f.data.toList.drop mn ∧ fr.size ≤ 1000 := by
    refine ⟨_, rfl, ?_, ?_⟩
    · rw [ext_data, List.take_of_length_le (by rw [size_len]; exact Nat.le_refl _)]
    · rw [ByteArray.size_extract]; omega
  obtain ⟨fr, hfr, hfd, hfs⟩ := hfx
  rw [← hfd] at HSH
  clear hfd hmn
  have HP := Lib.hid (fun w => permitted_any ng t fr w HTS hfs)
  generalize permD ng t.data.toList fr.data.toList = pv at *
  have hmm : max (min n0 40) (-40) = (n : Int) := hn
  clear hn
  go_enter Tryz.func12, Tryz.ntmps12
  go_wp2_with fail
  refine (Calls.toExt (HS.out _)).mono ?_
  rintro e _ ⟨rfl, x, rfl⟩
  go_wp2_with fail
  refine wp_region_ext (by kernel_rfl) (by kernel_rfl) ?_
  repeat (go_big_quiet_step ((go_at_call 20; exact Calls.ext (HR.out _))))
  refine wpQuiet_nil ?_
  intro _ hw'
  obtain ⟨y, hw''⟩ := hw'
  subst hw''
  have hzy : x.1.heap.size < y.1.heap.size := by have := y.2.size; (try simp at this); omega
  have hxw : w.heap.size ≤ x.1.heap.size := by have := x.2.size; (try simp at this); omega
  obtain ⟨ex, hex, hexs⟩ : ∃ ex, fz.extract 0 n = ex ∧ ex.size ≤ 100 := ⟨_, rfl, by rw [ByteArray.size_extract]; omega⟩
  rw [hex] at HTR
  go_wp2_with fail
  go_region_with ((go_at_call 21; refine (HTR.out _).mono ?_; rintro e _ ⟨rfl, rfl⟩))
  all_goals
    go_wp2_with fail
    refine (Calls.toExt (HP.out _)).mono ?_
    rintro e _ ⟨rfl, u, rfl⟩
    go_wp2_with fail
    go_ret2
    exact ⟨by rw [HSH.out]; rfl, by (show Bel w _; (repeat (first | exact Bel.refl _ | refine Bel.ext ?_ _ | refine Bel.alloc ?_ _ | refine Bel.drewN ?_ _ | refine Bel.drew ?_ | refine Bel.setCell ?_ _ _ ?_ | exact Nat.le_refl _ | (simp; done) | omega | (simp <;> omega))))⟩
end Go.Proofs.YtnnidhjmakpaeaaGreatDoor
