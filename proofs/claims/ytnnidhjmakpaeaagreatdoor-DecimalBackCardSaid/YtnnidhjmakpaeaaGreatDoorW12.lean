/- Walks: Shift by the program, downwards, and by the reference. -/
import Derived.Test.YtnnidhjmakpaeaaGreatDoorW10
namespace Go.Proofs.YtnnidhjmakpaeaaGreatDoor
open Go.RowKit
attribute [local go_sem] Ext.cell Ext.frozen
attribute [local go_sem ↓] Go.wp_at_zero Go.wp_at_succ

set_option maxRecDepth 20000 in
set_option maxHeartbeats 40000000 in
theorem shift_down (s : ByteArray) (n0 : Int) (m : Nat) (w : World) (hs : s.size ≤ 1000) (ho : dOk s.data.toList = true) (hn : max (min n0 40) (-40) = -(m : Int)) (hm0 : 0 < m) :
    Calls Tryz.prog 12 #[.string s, .int .i64 n0] w fun e w' => e = .returned (.tuple #[.string (bs (shiftD s.data.toList n0).1), .int .i64 ((shiftD s.data.toList n0).2 : Nat)]) ∧ Below w.heap.size w w' := by
  have HS := Lib.hid (fun w => split_any s w hs)
  obtain ⟨ha, hf, hda, hdf, _⟩ := split_ok_facts ho
  have hm40 : m ≤ 40 := by omega
  have HSH : Hid (shiftD s.data.toList n0 = permD (dNeg s.data.toList) (shW (dWhole s.data.toList) (dFrac s.data.toList) (-(m : Int))) (shF (dWhole s.data.toList) (dFrac s.data.toList) (-(m : Int)))) := by
    unfold Hid shiftD; rw [if_neg (by rw [ho]; simp), hn]
  rw [ho] at HS
  clear ho hda hdf
  have HWF : Hid (shW (dWhole s.data.toList) (dFrac s.data.toList) (-(m : Int)) = trimmedD ((List.replicate m 48 ++ dWhole s.data.toList).take (dWhole s.data.toList).length) ∧ shF (dWhole s.data.toList) (dFrac s.data.toList) (-(m : Int)) = (List.replicate m 48 ++ dWhole s.data.toList).drop (dWhole s.data.toList).length ++ dFrac s.data.toList) := by
    unfold Hid shW shF
    rw [if_neg (by omega), if_neg (by omega), show (-(-(m : Int))).toNat = m by omega]
    exact ⟨rfl, rfl⟩
  rw [HWF.out.1, HWF.out.2] at HSH
  clear HWF
  generalize dNeg s.data.toList = ng at *
  have HA : Hid ((bs (dWhole s.data.toList)).data.toList = dWhole s.data.toList) := rfl
  have HF : Hid ((bs (dFrac s.data.toList)).data.toList = dFrac s.data.toList) := rfl
  rw [← HA.out, ← HF.out, size_len] at HSH
  clear HA HF
  generalize bs (dWhole s.data.toList) = a at *
  generalize bs (dFrac s.data.toList) = f at *
  have HR := Lib.hid (fun w => repeat_any m w (by omega))
  have hzr : (bs (List.replicate m 48)).size = m := by rw [bs_size, List.length_replicate]
  have HBD : Hid ((bs (List.replicate m 48)).data.toList = List.replicate m 48) := rfl
  rw [← HBD.out] at HSH
  clear HBD
  generalize bs (List.replicate m 48) = z at *
  have hal : ∃ al, z ++ a = al ∧ al.data.toList = z.data.toList ++ a.data.toList ∧ al.size = m + a.size := by
    refine ⟨_, rfl, app_data _ _, ?_⟩
    rw [ByteArray.size_append, hzr]
  obtain ⟨al, hxal, hald, hals⟩ := hal
  rw [← hald] at HSH
  have HALS := Lib.hid hals
  have hal1 : m ≤ al.size := by omega
  have hzs : z.size ≤ 40 := by omega
  have hal2 : al.size ≤ 100 := by omega
  have HTR := Lib.hid (fun w => trimmed_any (al.extract 0 a.size) w)
  have HTL : Hid (bs (trimmedD (al.extract 0 a.size).data.toList) = bs (trimmedD (al.data.toList.take a.size))) := by
    rw [Hid, ext_data, List.drop_zero]
  rw [HTL.out] at HTR
  have HTS : (bs (trimmedD (al.data.toList.take a.size))).size ≤ 1000 := by
    rw [bs_size]
    unfold trimmedD
    split
    · simp
    · have := (List.dropWhile_sublist (fun x => [48].contains x) (l := al.data.toList.take a.size)).length_le
      unfold Lib.trimLeftS
      rw [List.length_take, size_len] at this
      omega
  have HTD : Hid ((bs (trimmedD (al.data.toList.take a.size))).data.toList = trimmedD (al.data.toList.take a.size)) := rfl
  rw [← HTD.out] at HSH
  clear HTD HTL hald hals hzr
  generalize bs (trimmedD (al.data.toList.take a.size)) = t at *
  have hfx : ∃ fr, al.extract a.size al.size = fr ∧ (fr ++ f).data.toList = al.data.toList.drop a.size ++ f.data.toList ∧ (fr ++ f).size ≤ 1000 := by
    refine ⟨_, rfl, ?_, ?_⟩
    · rw [app_data, ext_data, List.take_of_length_le (by rw [size_len]; exact Nat.le_refl _)]
    · rw [ByteArray.size_append, ByteArray.size_extract]; omega
  obtain ⟨fr, hfr, hfd, hfs⟩ := hfx
  have hfrs : fr.size ≤ 100 := by rw [← hfr, ByteArray.size_extract]; omega
  rw [← hfd] at HSH
  clear hfd
  have HP := Lib.hid (fun w => permitted_any ng t (fr ++ f) w HTS hfs)
  generalize permD ng t.data.toList (fr ++ f).data.toList = pv at *
  have hmm : max (min n0 40) (-40) = -(m : Int) := hn
  have hmp : (0 : Int) < (m : Int) := by omega
  have hneg : -(-(m : Int)) = (m : Int) := by omega
  have hi0 : (0 : Int) ≤ (a.size : Int) := by omega
  have hi1 : (a.size : Int) ≤ (al.size : Int) := by have := HALS.out; omega
  have hasz : a.size ≤ al.size := by have := HALS.out; omega
  clear hn
  go_enter Tryz.func12, Tryz.ntmps12
  go_wp2_with fail
  refine (Calls.toExt (HS.out _)).mono ?_
  rintro e _ ⟨rfl, x, rfl⟩
  go_wp2_with fail
  refine wp_region_ext (by kernel_rfl) (by kernel_rfl) ?_
  repeat (go_big_quiet_step ((go_at_call 20; exact Calls.ext (HR.out _))))
  refine wpQuiet_nil ?_
  intro _ hw'
  obtain ⟨y, hw''⟩ := hw'
  subst hw''
  have hzy : x.1.heap.size < y.1.heap.size := by have := y.2.size; (try simp at this); omega
  go_wp2_with fail
  have g0 : (al.size : Int) + -(m : Int) = (a.size : Int) := by have := HALS.out; omega
  have G0 := Lib.hid g0
  clear g0
  have g1 : IntKind.i64.wrap ((al.size : Int) + -(m : Int)) = (al.size : Int) + -(m : Int) := by rw [G0.out, IntKind.wrap_i64]; omega
  have g2 : 0 ≤ (al.size : Int) + -(m : Int) := by rw [G0.out]; omega
  have g3 : ((al.size : Int) + -(m : Int)).toNat = a.size := by rw [G0.out]; omega
  have g4 : (al.size : Int) + -(m : Int) ≤ (al.size : Int) := by omega
  go_region_with ((go_at_call 21; refine (HTR.out _).mono ?_; rintro e _ ⟨rfl, rfl⟩))
  all_goals
    clear g1 g2 g3 g4
    have hxw : w.heap.size ≤ x.1.heap.size := by have := x.2.size; (try simp at this); omega
    go_wp2_with fail
    refine (Calls.toExt (HP.out _)).mono ?_
    rintro e _ ⟨rfl, u, rfl⟩
    go_wp2_with fail
    go_ret2
    exact ⟨by rw [HSH.out]; rfl, by (show Bel w _; (repeat (first | exact Bel.refl _ | refine Bel.ext ?_ _ | refine Bel.alloc ?_ _ | refine Bel.drewN ?_ _ | refine Bel.drew ?_ | refine Bel.setCell ?_ _ _ ?_ | exact Nat.le_refl _ | (simp; done) | omega | (simp <;> omega))))⟩
end Go.Proofs.YtnnidhjmakpaeaaGreatDoor
