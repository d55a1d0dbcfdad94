/- Walks: whether a pattern fits a skeleton, by the program. -/
import Derived.Test.YtaolbfbnjbpljaaDoorV5
import Derived.Test.YtaolbfbnjbpljaaDoorV6
namespace Go.Proofs.YtaolbfbnjbpljaaDoor
open Go.RowKit
attribute [local go_sem] Ext.cell Ext.frozen
attribute [local go_sem ↓] Go.wp_at_zero Go.wp_at_succ

theorem fieldsV_some {s : List UInt8} {fs} (h : fieldsV s = some fs) : fs ≠ [] ∧ fs.length ≤ 4 ∧ ∀ f ∈ fs, isFld f = true := by
  unfold fieldsV at h
  cases hs : stF s 4 with
  | none => rw [hs] at h; cases h
  | some st =>
    obtain ⟨o, r⟩ := st
    rw [hs] at h
    obtain ⟨h1, _, h3⟩ := stF_len hs
    simp only at h
    split at h
    · rename_i hc
      injection h with h
      subst h
      exact ⟨hc.2, h1, h3⟩
    · cases h
def dateV (s p : List UInt8) : Bool :=
  match fieldsV s, runsV p.length p with
  | some w, some g => decide (g ≠ []) && ((kindsV g).2 && decide ((kindsV w).1 = (kindsV g).1))
  | _, _ => false

set_option maxRecDepth 20000 in
set_option maxHeartbeats 8000000 in
theorem date_any (s p : ByteArray) (w : World) (hs : s.size ≤ 1000) (hp : p.size ≤ 1000) : Calls Tryd.prog 11 #[.string s, .string p] w fun e w' => e = .returned (.bool (dateV s.data.toList p.data.toList)) ∧ Below w.heap.size w w' := by
  have HFI := Lib.hid (fun w => fields_any s w hs)
  have HRU := Lib.hid (fun w => runs_any p w hp)
  have hpl : p.data.toList.length = p.size := size_len p
  go_enter Tryd.func11, Tryd.ntmps11
  go_wp2_with fail
  refine (HFI.out _).mono ?_
  rintro e w1 ⟨hb1, hf1⟩
  have HB1 := Lib.hid hb1
  have hz1 := hb1.size
  clear hb1
  rcases hf1 with ⟨hv1, rfl⟩ | ⟨fs, ad, c, hv1, rfl, hown1⟩
  · have HD : Hid (dateV s.data.toList p.data.toList = false) := by unfold Hid dateV; rw [hv1]
    clear hv1
    go_wp2_with fail
    refine (HRU.out _).mono ?_
    rintro e w2 ⟨hb2, hf2⟩
    have HB2 := Lib.hid (HB1.out.trans (hb2.mono hz1))
    clear hb2
    rcases hf2 with ⟨hv2, rfl⟩ | ⟨gs, ad2, c2, hv2, _, _, rfl, hown2⟩
    · clear hv2
      go_wp2_with fail
      go_ret
      exact ⟨ret_bool HD.out.symm, HB2.out⟩
    · clear hv2 hown2
      go_wp2_with fail
      go_ret
      exact ⟨ret_bool HD.out.symm, HB2.out⟩
  · obtain ⟨hne1, hl1, hfl1⟩ := fieldsV_some hv1
    have HO1 := Lib.hid hown1
    have HV1 := Lib.hid hv1
    have HFL1 : Hid (∀ f ∈ fs, 1 ≤ f.length ∧ f.length ≤ 3) := fun f hm => fld_facts (hfl1 f hm)
    clear hown1 hv1 hfl1
    go_wp2_with fail
    refine (HRU.out _).mono ?_
    rintro e w2 ⟨hb2, hf2⟩
    have HB2 := Lib.hid (HB1.out.trans (hb2.mono hz1))
    have HO12 := Lib.hid (Own.below HO1.out hb2)
    have hz2 := hb2.size
    clear hb2
    rcases hf2 with ⟨hv2, rfl⟩ | ⟨gs, ad2, c2, hv2, hl2, hfl2, rfl, hown2⟩
    · have HD : Hid (dateV s.data.toList p.data.toList = false) := by unfold Hid dateV; rw [HV1.out, hv2]
      clear hv2
      go_wp2_with fail
      go_ret
      exact ⟨ret_bool HD.out.symm, HB2.out⟩
    · by_cases hg0 : gs = []
      · subst hg0
        have HD : Hid (dateV s.data.toList p.data.toList = false) := by unfold Hid dateV; rw [HV1.out, hv2]; rfl
        clear hv2 hown2 hfl2
        go_wp2_with fail
        go_ret
        exact ⟨ret_bool HD.out.symm, HB2.out⟩
      · have HO2 := Lib.hid hown2
        have HFL2 : Hid (∀ f ∈ gs, 1 ≤ f.length ∧ f.length ≤ 3) := fun f hm => fld_facts (hfl2 f hm)
        have HD : Hid (dateV s.data.toList p.data.toList = ((kindsV gs).2 && decide ((kindsV fs).1 = (kindsV gs).1))) := by
          unfold Hid dateV; rw [HV1.out, hv2]; simp [hg0]
        have HG0 := Lib.hid hg0
        have HNE1 := Lib.hid hne1
        have hlp : 0 < gs.length := List.length_pos_iff.2 hg0
        have hl0 : ((gs.length : Int) == 0) = false := by rw [beq_eq_false_iff_ne]; omega
        have hg1000 : gs.length ≤ 1000 := by omega
        have HK1 := Lib.hid (fun W h => kinds_any ad fs.length c fs W h HNE1.out HFL1.out (by omega))
        have HK2 := Lib.hid (fun W h => kinds_any ad2 gs.length c2 gs W h HG0.out HFL2.out hg1000)
        clear hv2 hown2 hfl2 hg0 hne1
        obtain ⟨m, hm⟩ : ∃ m, gs.length = m := ⟨_, rfl⟩
        rw [hm] at hlp hl0 hg1000 HO2 HK2
        rw [hm]
        obtain ⟨m1, hm1⟩ : ∃ m, fs.length = m := ⟨_, rfl⟩
        rw [hm1] at HO1 HO12 HK1
        rw [hm1]
        clear hm hm1
        generalize (kindsV fs).1 = ka at *
        generalize (kindsV fs).2 = kb at *
        generalize (kindsV gs).1 = kc at *
        go_wp2_with fail
        refine (Calls.toExt (HK1.out _ (Own.sl HO12.out))).mono ?_
        rintro e _ ⟨rfl, x, rfl⟩
        have hzx := x.2.size
        have HO2X := Lib.hid (Own.below HO2.out x.2)
        go_wp2_with fail
        refine (Calls.toExt (HK2.out _ (Own.sl HO2X.out))).mono ?_
        rintro e _ ⟨rfl, y, rfl⟩
        have HBF := Lib.hid ((HB2.out.trans (x.2.mono (by omega))).trans (y.2.mono (by omega)))
        cases hd : (kindsV gs).2 with
        | false =>
          rw [hd] at HD
          clear hd
          go_wp2_with fail
          go_ret
          exact ⟨ret_bool (by rw [HD.out]; rfl), HBF.out⟩
        | true =>
          rw [hd] at HD
          clear hd
          by_cases hkk : ka = kc
          · have HR : Hid (dateV s.data.toList p.data.toList = true) := by unfold Hid; rw [HD.out, decide_eq_true hkk]; rfl
            subst hkk
            go_wp2_with fail
            go_ret
            exact ⟨ret_bool (by rw [HR.out]), HBF.out⟩
          · have HR : Hid (dateV s.data.toList p.data.toList = false) := by unfold Hid; rw [HD.out, decide_eq_false hkk]; rfl
            have hne : ¬ bs ka = bs kc := fun e => hkk (bs_inj e)
            have hne2 : ((bs ka).toList == (bs kc).toList) = false := by rw [bs_toList, bs_toList]; simpa using hkk
            clear hkk
            generalize bs ka = A1 at *
            generalize bs kc = A2 at *
            go_wp2_with fail
            go_ret
            exact ⟨ret_bool (by rw [HR.out]), HBF.out⟩
end Go.Proofs.YtaolbfbnjbpljaaDoor
