/- Walks: the parts of a number by the reference. -/
import Derived.Test.YtadhblppeaamlaaGreatDoorQ03
namespace Go.Proofs.YtadhblppeaamlaaGreatDoor
open Go.RowKit
attribute [local go_sem] Ext.cell Ext.frozen
attribute [local go_sem ↓] Go.wp_at_zero Go.wp_at_succ

/-- what the reference's Split returns -/
def RS (ok n : Bool) (a f : ByteArray) : Value := if ok then .tuple #[.agg #[.bool n, .string a, .string f], .bool true] else .tuple #[.agg #[.bool false, .string ⟨#[]⟩, .string ⟨#[]⟩], .bool false]
theorem RS_no {ok n : Bool} {a f : ByteArray} (h : ok = false) : RS ok n a f = .tuple #[.agg #[.bool false, .string ⟨#[]⟩, .string ⟨#[]⟩], .bool false] := by rw [h]; rfl
theorem RS_yes {ok n : Bool} {a f : ByteArray} (h : ok = true) : RS ok n a f = .tuple #[.agg #[.bool n, .string a, .string f], .bool true] := by rw [h]; rfl
theorem allD_left {a f : ByteArray} (h : allD (a ++ f).data.toList = true) : allD a.data.toList = true := by
  rw [app_data, allD_append, Bool.and_eq_true] at h; exact h.1
theorem allD_right {a f : ByteArray} (h : allD (a ++ f).data.toList = true) : allD f.data.toList = true := by
  rw [app_data, allD_append, Bool.and_eq_true] at h; exact h.2
theorem okWF_digits {a f : ByteArray} {p : Bool} (h : allD (a ++ f).data.toList = false) : (okW a.data.toList && okF p f.data.toList) = false := by
  rw [app_data, allD_append, Bool.and_eq_false_iff] at h
  rcases h with h | h
  · rw [okW_digits h]; rfl
  · rw [okF_digits h, Bool.and_false]
theorem okF_of {f : ByteArray} {p : Bool} (hp : p = false ∨ f.size ≠ 0) (h6 : ¬ 6 < f.size) (hd : allD f.data.toList = true) : okF p f.data.toList = true := by
  cases p with
  | false => exact okF_false h6 hd
  | true =>
    rcases hp with h | h
    · cases h
    · exact okF_true h h6 hd
theorem tw_at {r : ByteArray} {k : Nat} (h : k < tw r.data.toList) : ∃ h : k < r.size, r[k].toNat ≠ 46 := by
  have hl := tw_le r.data.toList
  have hlt : k < r.size := by rw [← size_len]; omega
  refine ⟨hlt, fun e => ?_⟩
  have h1 : k < (r.data.toList.takeWhile (· != 46)).length := h
  have h2 : (r.data.toList.takeWhile (· != 46))[k] = r[k] := by
    have h3 : (r.data.toList.take (tw r.data.toList))[k]'(by rw [List.length_take]; omega) = r.data.toList[k]'(by rw [size_len]; exact hlt) := List.getElem_take
    have h4 : r[k] = r.data.toList[k]'(by rw [size_len]; exact hlt) := rfl
    rw [h4, ← h3]
    simp only [take_tw]
  have h5 := List.all_eq_true.1 List.all_takeWhile _ (List.getElem_mem h1)
  rw [h2] at h5
  simp at h5
  exact h5 (UInt8.toNat_inj.1 e)
theorem tw_step {r : ByteArray} {k : Nat} (hk : k ≤ tw r.data.toList) (hlt : k < r.size) (h46 : r[k].toNat ≠ 46) : k + 1 ≤ tw r.data.toList := by
  rcases Nat.lt_or_eq_of_le hk with h | h
  · exact h
  · exfalso
    subst h
    have hl : tw r.data.toList < r.data.toList.length := by rw [size_len]; exact hlt
    have h1 : r.data.toList = r.data.toList.takeWhile (· != 46) ++ r.data.toList.dropWhile (· != 46) := (List.takeWhile_append_dropWhile ..).symm
    have h2 : r.data.toList.dropWhile (· != 46) = r.data.toList.drop (tw r.data.toList) := by
      have e := congrArg (List.drop (tw r.data.toList)) h1
      rw [List.drop_left' (show (r.data.toList.takeWhile (· != 46)).length = tw r.data.toList from rfl)] at e
      exact e.symm
    rw [List.drop_eq_getElem_cons hl] at h2
    have h3 := List.head?_dropWhile_not (fun x => x != 46) r.data.toList
    rw [h2] at h3
    simp at h3
    have h4 : r[tw r.data.toList] = r.data[tw r.data.toList] := rfl
    exact h46 (by rw [h4, h3]; rfl)
theorem tw_stop {r : ByteArray} {k : Nat} (hk : k ≤ tw r.data.toList) (h : ¬ ∃ h : k < r.size, r[k].toNat ≠ 46) : k = tw r.data.toList := by
  rcases Nat.lt_or_eq_of_le hk with h1 | h1
  · exact absurd (tw_at h1) h
  · exact h1

set_option maxRecDepth 20000 in
set_option maxHeartbeats 40000000 in
theorem rsplit_false (s : ByteArray) (a f : ByteArray) (ok : Bool) (w : World) (hs : s.size ≤ 9223372036854775807)
    (h00 : 0 < s.size) (h01 : ((s[0].toNat : Int) == 45) = false)
    (hxa : s.extract 0 (tw s.data.toList) = a) (hxf : s.extract (tw s.data.toList + 1) s.size = f)
    (hok : Hid (ok = (okW a.data.toList && okF (decide (tw s.data.toList < s.size)) f.data.toList && !(false && (allZ a.data.toList && allZ f.data.toList))))) :
    Calls Tryz.prog 66 #[.string s] w fun e w' => e = .returned (RS ok false a f) ∧ Below w.heap.size w w' := by
  have HSA : a.size ≤ 9223372036854775807 := by rw [← hxa, ByteArray.size_extract]; omega
  have HSF : f.size ≤ 9223372036854775807 := by rw [← hxf, ByteArray.size_extract]; omega
  have HSAF : a.size + f.size ≤ 9223372036854775807 := by rw [← hxa, ← hxf, ByteArray.size_extract, ByteArray.size_extract]; omega
  have HD := Lib.hid (fun w => rdigits_any (a ++ f) w (by rw [ByteArray.size_append]; omega))
  have HZ := Lib.hid (fun w => rzero_any (a ++ f) w (by rw [ByteArray.size_append]; omega))
  have HXA := Lib.hid hxa
  have HXF := Lib.hid hxf
  clear hxa hxf
  go_enter Tryz.func66, Tryz.ntmps66
  go_wp2_with fail
  go_loop [5] (fun i => ∃ k : Nat, k ≤ s.size ∧ i = .int .i64 k ∧ k ≤ tw s.data.toList) (fun i => s.size - (intOf i).toNat)
  case atStart => exact ⟨0, Nat.zero_le _, rfl, Nat.zero_le _⟩
  case round =>
    obtain ⟨k, hk, rfl, hkt⟩ := hrel
    have HKT := Lib.hid hkt
    clear hkt
    by_cases hgo : ∃ h : k < s.size, s[k].toNat ≠ 46
    · obtain ⟨hlt, h46⟩ := hgo
      have HS := Lib.hid (tw_step HKT.out hlt h46)
      have h5 : ((s[k].toNat : Int) != 46) = true := by rw [bne_iff_ne]; omega
      clear h46
      go_wp2
      go_round
      case rel => exact ⟨k + 1, by omega, by go_num, HS.out⟩
      case measure => simp [intOf]; omega
    · have HE := tw_stop HKT.out hgo
      have hst : (¬ k < s.size) ∨ ∃ h : k < s.size, ((s[k].toNat : Int) != 46) = false := by
        by_cases h : k < s.size
        · refine .inr ⟨h, ?_⟩
          have : s[k].toNat = 46 := Classical.byContradiction fun h2 => hgo ⟨h, h2⟩
          rw [this]; rfl
        · exact .inl h
      clear hgo
      have hxa := HXA.out
      have hxf := HXF.out
      rw [← HE] at hok hxa hxf
      clear HE HKT HXA HXF
      rcases hst with hnk | ⟨hlt, h5⟩
      · obtain rfl : k = s.size := by omega
        have hfe : f = ⟨#[]⟩ := by rw [← hxf]; apply ba_eq; rw [ext_data, List.drop_of_length_le (by rw [List.length_take, size_len]; omega)]
        rw [decide_eq_false hnk] at hok
        have HFE := Lib.hid hfe
        clear hfe hxf
        have HD2 : Hid (∀ w, Calls Tryz.prog 80 #[.string (a ++ ⟨#[]⟩)] w fun e w' => e = .returned (.bool (allD (a ++ f).data.toList)) ∧ w = w') := fun w => by
          have := HD.out w
          rw [HFE.out] at this ⊢
          exact this
        have HZ2 : Hid (∀ w, Calls Tryz.prog 81 #[.string (a ++ ⟨#[]⟩)] w fun e w' => e = .returned (.bool (allZ (a ++ f).data.toList)) ∧ w = w') := fun w => by
          have := HZ.out w
          rw [HFE.out] at this ⊢
          exact this
        cases hda : allD (a ++ f).data.toList with
        | false =>
          have HNO : Hid (RS ok false a f = .tuple #[.agg #[.bool false, .string ⟨#[]⟩, .string ⟨#[]⟩], .bool false]) := RS_no (by rw [hok.out, okWF_digits hda]; simp)
          rw [hda] at HD2
          clear hda
          go_wp2_with fail
          refine (HD2.out _).mono ?_
          rintro e _ ⟨rfl, rfl⟩
          go_wp2_with fail
          refine bodyPost_ret (v := .tuple #[.agg #[.bool false, .string ⟨#[]⟩, .string ⟨#[]⟩], .bool false]) (by simp [results, Tryz.results66, go_sem]) rfl ⟨by rw [HNO.out], ?_⟩
          (show Bel w _; (repeat (first | exact Bel.refl _ | refine Bel.ext ?_ _ | refine Bel.alloc ?_ _ | refine Bel.drewN ?_ _ | refine Bel.drew ?_ | refine Bel.setCell ?_ _ _ ?_ | exact Nat.le_refl _ | (simp; done) | omega)))
        | true =>
        have HDA := Lib.hid hda
        rw [hda] at HD2
        clear hda
        by_cases h1 : a.size < 1
        · have HNO : Hid (RS ok false a f = .tuple #[.agg #[.bool false, .string ⟨#[]⟩, .string ⟨#[]⟩], .bool false]) := RS_no (by rw [hok.out, okW_short h1]; simp)
          go_wp2_with fail
          refine (HD2.out _).mono ?_
          rintro e _ ⟨rfl, rfl⟩
          go_wp2_with fail
          refine bodyPost_ret (v := .tuple #[.agg #[.bool false, .string ⟨#[]⟩, .string ⟨#[]⟩], .bool false]) (by simp [results, Tryz.results66, go_sem]) rfl ⟨by rw [HNO.out], ?_⟩
          (show Bel w _; (repeat (first | exact Bel.refl _ | refine Bel.ext ?_ _ | refine Bel.alloc ?_ _ | refine Bel.drewN ?_ _ | refine Bel.drew ?_ | refine Bel.setCell ?_ _ _ ?_ | exact Nat.le_refl _ | (simp; done) | omega)))

        by_cases h2 : 15 < a.size
        · have HNO : Hid (RS ok false a f = .tuple #[.agg #[.bool false, .string ⟨#[]⟩, .string ⟨#[]⟩], .bool false]) := RS_no (by rw [hok.out, okW_long h2]; simp)
          go_wp2_with fail
          refine (HD2.out _).mono ?_
          rintro e _ ⟨rfl, rfl⟩
          go_wp2_with fail
          refine bodyPost_ret (v := .tuple #[.agg #[.bool false, .string ⟨#[]⟩, .string ⟨#[]⟩], .bool false]) (by simp [results, Tryz.results66, go_sem]) rfl ⟨by rw [HNO.out], ?_⟩
          (show Bel w _; (repeat (first | exact Bel.refl _ | refine Bel.ext ?_ _ | refine Bel.alloc ?_ _ | refine Bel.drewN ?_ _ | refine Bel.drew ?_ | refine Bel.setCell ?_ _ _ ?_ | exact Nat.le_refl _ | (simp; done) | omega)))

        have hlead : (¬ 1 < a.size) ∨ ∃ h : 1 < a.size, a[0].toNat ≠ 48 ∨ a[0].toNat = 48 := by
          by_cases h : 1 < a.size
          · exact .inr ⟨h, by omega⟩
          · exact .inl h
        rcases hlead with h3 | ⟨h3, h4 | h4⟩
        rotate_left 2
        · have HNO : Hid (RS ok false a f = .tuple #[.agg #[.bool false, .string ⟨#[]⟩, .string ⟨#[]⟩], .bool false]) := RS_no (by rw [hok.out, okW_lead h3 h4]; simp)
          have h5 : ((a[0].toNat : Int) == 48) = true := by rw [beq_iff_eq]; omega
          clear h4
          go_wp2_with fail
          refine (HD2.out _).mono ?_
          rintro e _ ⟨rfl, rfl⟩
          go_wp2_with fail
          refine bodyPost_ret (v := .tuple #[.agg #[.bool false, .string ⟨#[]⟩, .string ⟨#[]⟩], .bool false]) (by simp [results, Tryz.results66, go_sem]) rfl ⟨by rw [HNO.out], ?_⟩
          (show Bel w _; (repeat (first | exact Bel.refl _ | refine Bel.ext ?_ _ | refine Bel.alloc ?_ _ | refine Bel.drewN ?_ _ | refine Bel.drew ?_ | refine Bel.setCell ?_ _ _ ?_ | exact Nat.le_refl _ | (simp; done) | omega)))

        · have h5 : True := trivial
          by_cases h6 : 6 < f.size
          · exfalso
            rw [HFE.out] at h6
            exact absurd h6 (by decide)

          have HF : Hid (okW a.data.toList = true ∧ okF false f.data.toList = true) := ⟨okW_one (by omega) (allD_left HDA.out), okF_of (.inl rfl) h6 (allD_right HDA.out)⟩
          have HYES : Hid (RS ok false a f = .tuple #[.agg #[.bool false, .string a, .string f], .bool true]) := RS_yes (by rw [hok.out, HF.out.1, HF.out.2]; rfl)
          go_wp2_with fail
          refine (HD2.out _).mono ?_
          rintro e _ ⟨rfl, rfl⟩
          go_wp2_with fail
          refine bodyPost_ret (v := .tuple #[.agg #[.bool false, .string a, .string ⟨#[]⟩], .bool true]) (by simp [results, Tryz.results66, go_sem]) rfl ⟨by rw [HYES.out, HFE.out], ?_⟩
          (show Bel w _; (repeat (first | exact Bel.refl _ | refine Bel.ext ?_ _ | refine Bel.alloc ?_ _ | refine Bel.drewN ?_ _ | refine Bel.drew ?_ | refine Bel.setCell ?_ _ _ ?_ | exact Nat.le_refl _ | (simp; done) | omega)))
        · have h5 : ((a[0].toNat : Int) == 48) = false := by rw [beq_eq_false_iff_ne]; omega
          have HH4 := Lib.hid h4
          clear h4
          by_cases h6 : 6 < f.size
          · exfalso
            rw [HFE.out] at h6
            exact absurd h6 (by decide)

          have HF : Hid (okW a.data.toList = true ∧ okF false f.data.toList = true) := ⟨okW_more h3 (by omega) HH4.out (allD_left HDA.out), okF_of (.inl rfl) h6 (allD_right HDA.out)⟩
          have HYES : Hid (RS ok false a f = .tuple #[.agg #[.bool false, .string a, .string f], .bool true]) := RS_yes (by rw [hok.out, HF.out.1, HF.out.2]; rfl)
          go_wp2_with fail
          refine (HD2.out _).mono ?_
          rintro e _ ⟨rfl, rfl⟩
          go_wp2_with fail
          refine bodyPost_ret (v := .tuple #[.agg #[.bool false, .string a, .string ⟨#[]⟩], .bool true]) (by simp [results, Tryz.results66, go_sem]) rfl ⟨by rw [HYES.out, HFE.out], ?_⟩
          (show Bel w _; (repeat (first | exact Bel.refl _ | refine Bel.ext ?_ _ | refine Bel.alloc ?_ _ | refine Bel.drewN ?_ _ | refine Bel.drew ?_ | refine Bel.setCell ?_ _ _ ?_ | exact Nat.le_refl _ | (simp; done) | omega)))

      · rw [decide_eq_true hlt] at hok
        by_cases hf0 : f.size = 0
        · have HNO : Hid (RS ok false a f = .tuple #[.agg #[.bool false, .string ⟨#[]⟩, .string ⟨#[]⟩], .bool false]) := RS_no (by rw [hok.out, okF_none hf0]; simp)
          have hf1 : ((f.size : Int) == 0) = true := by rw [beq_iff_eq]; omega
          clear hf0
          go_wp2_with fail
          refine bodyPost_ret (v := .tuple #[.agg #[.bool false, .string ⟨#[]⟩, .string ⟨#[]⟩], .bool false]) (by simp [results, Tryz.results66, go_sem]) rfl ⟨by rw [HNO.out], ?_⟩
          (show Bel w _; (repeat (first | exact Bel.refl _ | refine Bel.ext ?_ _ | refine Bel.alloc ?_ _ | refine Bel.drewN ?_ _ | refine Bel.drew ?_ | refine Bel.setCell ?_ _ _ ?_ | exact Nat.le_refl _ | (simp; done) | omega)))

        have HF0 := Lib.hid hf0
        have hf1 : ((f.size : Int) == 0) = false := by rw [beq_eq_false_iff_ne]; omega
        clear hf0
        cases hda : allD (a ++ f).data.toList with
        | false =>
          have HNO : Hid (RS ok false a f = .tuple #[.agg #[.bool false, .string ⟨#[]⟩, .string ⟨#[]⟩], .bool false]) := RS_no (by rw [hok.out, okWF_digits hda]; simp)
          rw [hda] at HD
          clear hda
          go_wp2_with fail
          refine (HD.out _).mono ?_
          rintro e _ ⟨rfl, rfl⟩
          go_wp2_with fail
          refine bodyPost_ret (v := .tuple #[.agg #[.bool false, .string ⟨#[]⟩, .string ⟨#[]⟩], .bool false]) (by simp [results, Tryz.results66, go_sem]) rfl ⟨by rw [HNO.out], ?_⟩
          (show Bel w _; (repeat (first | exact Bel.refl _ | refine Bel.ext ?_ _ | refine Bel.alloc ?_ _ | refine Bel.drewN ?_ _ | refine Bel.drew ?_ | refine Bel.setCell ?_ _ _ ?_ | exact Nat.le_refl _ | (simp; done) | omega)))
        | true =>
        have HDA := Lib.hid hda
        rw [hda] at HD
        clear hda
        by_cases h1 : a.size < 1
        · have HNO : Hid (RS ok false a f = .tuple #[.agg #[.bool false, .string ⟨#[]⟩, .string ⟨#[]⟩], .bool false]) := RS_no (by rw [hok.out, okW_short h1]; simp)
          go_wp2_with fail
          refine (HD.out _).mono ?_
          rintro e _ ⟨rfl, rfl⟩
          go_wp2_with fail
          refine bodyPost_ret (v := .tuple #[.agg #[.bool false, .string ⟨#[]⟩, .string ⟨#[]⟩], .bool false]) (by simp [results, Tryz.results66, go_sem]) rfl ⟨by rw [HNO.out], ?_⟩
          (show Bel w _; (repeat (first | exact Bel.refl _ | refine Bel.ext ?_ _ | refine Bel.alloc ?_ _ | refine Bel.drewN ?_ _ | refine Bel.drew ?_ | refine Bel.setCell ?_ _ _ ?_ | exact Nat.le_refl _ | (simp; done) | omega)))

        by_cases h2 : 15 < a.size
        · have HNO : Hid (RS ok false a f = .tuple #[.agg #[.bool false, .string ⟨#[]⟩, .string ⟨#[]⟩], .bool false]) := RS_no (by rw [hok.out, okW_long h2]; simp)
          go_wp2_with fail
          refine (HD.out _).mono ?_
          rintro e _ ⟨rfl, rfl⟩
          go_wp2_with fail
          refine bodyPost_ret (v := .tuple #[.agg #[.bool false, .string ⟨#[]⟩, .string ⟨#[]⟩], .bool false]) (by simp [results, Tryz.results66, go_sem]) rfl ⟨by rw [HNO.out], ?_⟩
          (show Bel w _; (repeat (first | exact Bel.refl _ | refine Bel.ext ?_ _ | refine Bel.alloc ?_ _ | refine Bel.drewN ?_ _ | refine Bel.drew ?_ | refine Bel.setCell ?_ _ _ ?_ | exact Nat.le_refl _ | (simp; done) | omega)))

        have hlead : (¬ 1 < a.size) ∨ ∃ h : 1 < a.size, a[0].toNat ≠ 48 ∨ a[0].toNat = 48 := by
          by_cases h : 1 < a.size
          · exact .inr ⟨h, by omega⟩
          · exact .inl h
        rcases hlead with h3 | ⟨h3, h4 | h4⟩
        rotate_left 2
        · have HNO : Hid (RS ok false a f = .tuple #[.agg #[.bool false, .string ⟨#[]⟩, .string ⟨#[]⟩], .bool false]) := RS_no (by rw [hok.out, okW_lead h3 h4]; simp)
          have h5 : ((a[0].toNat : Int) == 48) = true := by rw [beq_iff_eq]; omega
          clear h4
          go_wp2_with fail
          refine (HD.out _).mono ?_
          rintro e _ ⟨rfl, rfl⟩
          go_wp2_with fail
          refine bodyPost_ret (v := .tuple #[.agg #[.bool false, .string ⟨#[]⟩, .string ⟨#[]⟩], .bool false]) (by simp [results, Tryz.results66, go_sem]) rfl ⟨by rw [HNO.out], ?_⟩
          (show Bel w _; (repeat (first | exact Bel.refl _ | refine Bel.ext ?_ _ | refine Bel.alloc ?_ _ | refine Bel.drewN ?_ _ | refine Bel.drew ?_ | refine Bel.setCell ?_ _ _ ?_ | exact Nat.le_refl _ | (simp; done) | omega)))

        · have h5 : True := trivial
          by_cases h6 : 6 < f.size
          · have HNO : Hid (RS ok false a f = .tuple #[.agg #[.bool false, .string ⟨#[]⟩, .string ⟨#[]⟩], .bool false]) := RS_no (by rw [hok.out, okF_long h6]; simp)
            go_wp2_with fail
            refine (HD.out _).mono ?_
            rintro e _ ⟨rfl, rfl⟩
            go_wp2_with fail
            refine bodyPost_ret (v := .tuple #[.agg #[.bool false, .string ⟨#[]⟩, .string ⟨#[]⟩], .bool false]) (by simp [results, Tryz.results66, go_sem]) rfl ⟨by rw [HNO.out], ?_⟩
            (show Bel w _; (repeat (first | exact Bel.refl _ | refine Bel.ext ?_ _ | refine Bel.alloc ?_ _ | refine Bel.drewN ?_ _ | refine Bel.drew ?_ | refine Bel.setCell ?_ _ _ ?_ | exact Nat.le_refl _ | (simp; done) | omega)))

          have HF : Hid (okW a.data.toList = true ∧ okF true f.data.toList = true) := ⟨okW_one (by omega) (allD_left HDA.out), okF_of (.inr HF0.out) h6 (allD_right HDA.out)⟩
          have HYES : Hid (RS ok false a f = .tuple #[.agg #[.bool false, .string a, .string f], .bool true]) := RS_yes (by rw [hok.out, HF.out.1, HF.out.2]; rfl)
          go_wp2_with fail
          refine (HD.out _).mono ?_
          rintro e _ ⟨rfl, rfl⟩
          go_wp2_with fail
          refine bodyPost_ret (v := .tuple #[.agg #[.bool false, .string a, .string f], .bool true]) (by simp [results, Tryz.results66, go_sem]) rfl ⟨by rw [HYES.out], ?_⟩
          (show Bel w _; (repeat (first | exact Bel.refl _ | refine Bel.ext ?_ _ | refine Bel.alloc ?_ _ | refine Bel.drewN ?_ _ | refine Bel.drew ?_ | refine Bel.setCell ?_ _ _ ?_ | exact Nat.le_refl _ | (simp; done) | omega)))
        · have h5 : ((a[0].toNat : Int) == 48) = false := by rw [beq_eq_false_iff_ne]; omega
          have HH4 := Lib.hid h4
          clear h4
          by_cases h6 : 6 < f.size
          · have HNO : Hid (RS ok false a f = .tuple #[.agg #[.bool false, .string ⟨#[]⟩, .string ⟨#[]⟩], .bool false]) := RS_no (by rw [hok.out, okF_long h6]; simp)
            go_wp2_with fail
            refine (HD.out _).mono ?_
            rintro e _ ⟨rfl, rfl⟩
            go_wp2_with fail
            refine bodyPost_ret (v := .tuple #[.agg #[.bool false, .string ⟨#[]⟩, .string ⟨#[]⟩], .bool false]) (by simp [results, Tryz.results66, go_sem]) rfl ⟨by rw [HNO.out], ?_⟩
            (show Bel w _; (repeat (first | exact Bel.refl _ | refine Bel.ext ?_ _ | refine Bel.alloc ?_ _ | refine Bel.drewN ?_ _ | refine Bel.drew ?_ | refine Bel.setCell ?_ _ _ ?_ | exact Nat.le_refl _ | (simp; done) | omega)))

          have HF : Hid (okW a.data.toList = true ∧ okF true f.data.toList = true) := ⟨okW_more h3 (by omega) HH4.out (allD_left HDA.out), okF_of (.inr HF0.out) h6 (allD_right HDA.out)⟩
          have HYES : Hid (RS ok false a f = .tuple #[.agg #[.bool false, .string a, .string f], .bool true]) := RS_yes (by rw [hok.out, HF.out.1, HF.out.2]; rfl)
          go_wp2_with fail
          refine (HD.out _).mono ?_
          rintro e _ ⟨rfl, rfl⟩
          go_wp2_with fail
          refine bodyPost_ret (v := .tuple #[.agg #[.bool false, .string a, .string f], .bool true]) (by simp [results, Tryz.results66, go_sem]) rfl ⟨by rw [HYES.out], ?_⟩
          (show Bel w _; (repeat (first | exact Bel.refl _ | refine Bel.ext ?_ _ | refine Bel.alloc ?_ _ | refine Bel.drewN ?_ _ | refine Bel.drew ?_ | refine Bel.setCell ?_ _ _ ?_ | exact Nat.le_refl _ | (simp; done) | omega)))
set_option maxRecDepth 20000 in
set_option maxHeartbeats 40000000 in
theorem rsplit_true (s r : ByteArray) (a f : ByteArray) (ok : Bool) (w : World) (hs : r.size ≤ 9223372036854775807)
    (hr : s.extract 1 s.size = r) (h00 : 0 < s.size) (h01 : ((s[0].toNat : Int) == 45) = true)
    (hxa : r.extract 0 (tw r.data.toList) = a) (hxf : r.extract (tw r.data.toList + 1) r.size = f)
    (hok : Hid (ok = (okW a.data.toList && okF (decide (tw r.data.toList < r.size)) f.data.toList && !(true && (allZ a.data.toList && allZ f.data.toList))))) :
    Calls Tryz.prog 66 #[.string s] w fun e w' => e = .returned (RS ok true a f) ∧ Below w.heap.size w w' := by
  have HSA : a.size ≤ 9223372036854775807 := by rw [← hxa, ByteArray.size_extract]; omega
  have HSF : f.size ≤ 9223372036854775807 := by rw [← hxf, ByteArray.size_extract]; omega
  have HSAF : a.size + f.size ≤ 9223372036854775807 := by rw [← hxa, ← hxf, ByteArray.size_extract, ByteArray.size_extract]; omega
  have HD := Lib.hid (fun w => rdigits_any (a ++ f) w (by rw [ByteArray.size_append]; omega))
  have HZ := Lib.hid (fun w => rzero_any (a ++ f) w (by rw [ByteArray.size_append]; omega))
  have HXA := Lib.hid hxa
  have HXF := Lib.hid hxf
  clear hxa hxf
  go_enter Tryz.func66, Tryz.ntmps66
  go_wp2_with fail
  go_region_with (fail)
  all_goals
    go_wp2_with fail
    go_loop [5] (fun i => ∃ k : Nat, k ≤ r.size ∧ i = .int .i64 k ∧ k ≤ tw r.data.toList) (fun i => r.size - (intOf i).toNat)
    case atStart => exact ⟨0, Nat.zero_le _, rfl, Nat.zero_le _⟩
    case round =>
      obtain ⟨k, hk, rfl, hkt⟩ := hrel
      have HKT := Lib.hid hkt
      clear hkt
      by_cases hgo : ∃ h : k < r.size, r[k].toNat ≠ 46
      · obtain ⟨hlt, h46⟩ := hgo
        have HS := Lib.hid (tw_step HKT.out hlt h46)
        have h5 : ((r[k].toNat : Int) != 46) = true := by rw [bne_iff_ne]; omega
        clear h46
        go_wp2
        go_round
        case rel => exact ⟨k + 1, by omega, by go_num, HS.out⟩
        case measure => simp [intOf]; omega
      · have HE := tw_stop HKT.out hgo
        have hst : (¬ k < r.size) ∨ ∃ h : k < r.size, ((r[k].toNat : Int) != 46) = false := by
          by_cases h : k < r.size
          · refine .inr ⟨h, ?_⟩
            have : r[k].toNat = 46 := Classical.byContradiction fun h2 => hgo ⟨h, h2⟩
            rw [this]; rfl
          · exact .inl h
        clear hgo
        have hxa := HXA.out
        have hxf := HXF.out
        rw [← HE] at hok hxa hxf
        clear HE HKT HXA HXF
        rcases hst with hnk | ⟨hlt, h5⟩
        · obtain rfl : k = r.size := by omega
          have hfe : f = ⟨#[]⟩ := by rw [← hxf]; apply ba_eq; rw [ext_data, List.drop_of_length_le (by rw [List.length_take, size_len]; omega)]
          rw [decide_eq_false hnk] at hok
          have HFE := Lib.hid hfe
          clear hfe hxf
          have HD2 : Hid (∀ w, Calls Tryz.prog 80 #[.string (a ++ ⟨#[]⟩)] w fun e w' => e = .returned (.bool (allD (a ++ f).data.toList)) ∧ w = w') := fun w => by
            have := HD.out w
            rw [HFE.out] at this ⊢
            exact this
          have HZ2 : Hid (∀ w, Calls Tryz.prog 81 #[.string (a ++ ⟨#[]⟩)] w fun e w' => e = .returned (.bool (allZ (a ++ f).data.toList)) ∧ w = w') := fun w => by
            have := HZ.out w
            rw [HFE.out] at this ⊢
            exact this
          cases hda : allD (a ++ f).data.toList with
          | false =>
            have HNO : Hid (RS ok true a f = .tuple #[.agg #[.bool false, .string ⟨#[]⟩, .string ⟨#[]⟩], .bool false]) := RS_no (by rw [hok.out, okWF_digits hda]; simp)
            rw [hda] at HD2
            clear hda
            go_wp2_with fail
            refine (HD2.out _).mono ?_
            rintro e _ ⟨rfl, rfl⟩
            go_wp2_with fail
            refine bodyPost_ret (v := .tuple #[.agg #[.bool false, .string ⟨#[]⟩, .string ⟨#[]⟩], .bool false]) (by simp [results, Tryz.results66, go_sem]) rfl ⟨by rw [HNO.out], ?_⟩
            (show Bel w _; (repeat (first | exact Bel.refl _ | refine Bel.ext ?_ _ | refine Bel.alloc ?_ _ | refine Bel.drewN ?_ _ | refine Bel.drew ?_ | refine Bel.setCell ?_ _ _ ?_ | exact Nat.le_refl _ | (simp; done) | omega)))
          | true =>
          have HDA := Lib.hid hda
          rw [hda] at HD2
          clear hda
          by_cases h1 : a.size < 1
          · have HNO : Hid (RS ok true a f = .tuple #[.agg #[.bool false, .string ⟨#[]⟩, .string ⟨#[]⟩], .bool false]) := RS_no (by rw [hok.out, okW_short h1]; simp)
            go_wp2_with fail
            refine (HD2.out _).mono ?_
            rintro e _ ⟨rfl, rfl⟩
            go_wp2_with fail
            refine bodyPost_ret (v := .tuple #[.agg #[.bool false, .string ⟨#[]⟩, .string ⟨#[]⟩], .bool false]) (by simp [results, Tryz.results66, go_sem]) rfl ⟨by rw [HNO.out], ?_⟩
            (show Bel w _; (repeat (first | exact Bel.refl _ | refine Bel.ext ?_ _ | refine Bel.alloc ?_ _ | refine Bel.drewN ?_ _ | refine Bel.drew ?_ | refine Bel.setCell ?_ _ _ ?_ | exact Nat.le_refl _ | (simp; done) | omega)))

          by_cases h2 : 15 < a.size
          · have HNO : Hid (RS ok true a f = .tuple #[.agg #[.bool false, .string ⟨#[]⟩, .string ⟨#[]⟩], .bool false]) := RS_no (by rw [hok.out, okW_long h2]; simp)
            go_wp2_with fail
            refine (HD2.out _).mono ?_
            rintro e _ ⟨rfl, rfl⟩
            go_wp2_with fail
            refine bodyPost_ret (v := .tuple #[.agg #[.bool false, .string ⟨#[]⟩, .string ⟨#[]⟩], .bool false]) (by simp [results, Tryz.results66, go_sem]) rfl ⟨by rw [HNO.out], ?_⟩
            (show Bel w _; (repeat (first | exact Bel.refl _ | refine Bel.ext ?_ _ | refine Bel.alloc ?_ _ | refine Bel.drewN ?_ _ | refine Bel.drew ?_ | refine Bel.setCell ?_ _ _ ?_ | exact Nat.le_refl _ | (simp; done) | omega)))

          have hlead : (¬ 1 < a.size) ∨ ∃ h : 1 < a.size, a[0].toNat ≠ 48 ∨ a[0].toNat = 48 := by
            by_cases h : 1 < a.size
            · exact .inr ⟨h, by omega⟩
            · exact .inl h
          rcases hlead with h3 | ⟨h3, h4 | h4⟩
          rotate_left 2
          · have HNO : Hid (RS ok true a f = .tuple #[.agg #[.bool false, .string ⟨#[]⟩, .string ⟨#[]⟩], .bool false]) := RS_no (by rw [hok.out, okW_lead h3 h4]; simp)
            have h5 : ((a[0].toNat : Int) == 48) = true := by rw [beq_iff_eq]; omega
            clear h4
            go_wp2_with fail
            refine (HD2.out _).mono ?_
            rintro e _ ⟨rfl, rfl⟩
            go_wp2_with fail
            refine bodyPost_ret (v := .tuple #[.agg #[.bool false, .string ⟨#[]⟩, .string ⟨#[]⟩], .bool false]) (by simp [results, Tryz.results66, go_sem]) rfl ⟨by rw [HNO.out], ?_⟩
            (show Bel w _; (repeat (first | exact Bel.refl _ | refine Bel.ext ?_ _ | refine Bel.alloc ?_ _ | refine Bel.drewN ?_ _ | refine Bel.drew ?_ | refine Bel.setCell ?_ _ _ ?_ | exact Nat.le_refl _ | (simp; done) | omega)))

          · have h5 : True := trivial
            by_cases h6 : 6 < f.size
            · exfalso
              rw [HFE.out] at h6
              exact absurd h6 (by decide)

            have HF : Hid (okW a.data.toList = true ∧ okF false f.data.toList = true) := ⟨okW_one (by omega) (allD_left HDA.out), okF_of (.inl rfl) h6 (allD_right HDA.out)⟩
            cases hz : allZ (a ++ f).data.toList with
            | true =>
              have HNO : Hid (RS ok true a f = .tuple #[.agg #[.bool false, .string ⟨#[]⟩, .string ⟨#[]⟩], .bool false]) := RS_no (by rw [hok.out, HF.out.1, HF.out.2, ← allZ_append, ← app_data, hz]; rfl)
              rw [hz] at HZ2
              clear hz
              go_wp2_with fail
              refine (HD2.out _).mono ?_
              rintro e _ ⟨rfl, rfl⟩
              go_wp2_with fail
              refine (HZ2.out _).mono ?_
              rintro e _ ⟨rfl, rfl⟩
              go_wp2_with fail
              refine bodyPost_ret (v := .tuple #[.agg #[.bool false, .string ⟨#[]⟩, .string ⟨#[]⟩], .bool false]) (by simp [results, Tryz.results66, go_sem]) rfl ⟨by rw [HNO.out], ?_⟩
              (show Bel w _; (repeat (first | exact Bel.refl _ | refine Bel.ext ?_ _ | refine Bel.alloc ?_ _ | refine Bel.drewN ?_ _ | refine Bel.drew ?_ | refine Bel.setCell ?_ _ _ ?_ | exact Nat.le_refl _ | (simp; done) | omega)))
            | false =>
              have HYES : Hid (RS ok true a f = .tuple #[.agg #[.bool true, .string a, .string f], .bool true]) := RS_yes (by rw [hok.out, HF.out.1, HF.out.2, ← allZ_append, ← app_data, hz]; rfl)
              rw [hz] at HZ2
              clear hz
              go_wp2_with fail
              refine (HD2.out _).mono ?_
              rintro e _ ⟨rfl, rfl⟩
              go_wp2_with fail
              refine (HZ2.out _).mono ?_
              rintro e _ ⟨rfl, rfl⟩
              go_wp2_with fail
              refine bodyPost_ret (v := .tuple #[.agg #[.bool true, .string a, .string ⟨#[]⟩], .bool true]) (by simp [results, Tryz.results66, go_sem]) rfl ⟨by rw [HYES.out, HFE.out], ?_⟩
              (show Bel w _; (repeat (first | exact Bel.refl _ | refine Bel.ext ?_ _ | refine Bel.alloc ?_ _ | refine Bel.drewN ?_ _ | refine Bel.drew ?_ | refine Bel.setCell ?_ _ _ ?_ | exact Nat.le_refl _ | (simp; done) | omega)))
          · have h5 : ((a[0].toNat : Int) == 48) = false := by rw [beq_eq_false_iff_ne]; omega
            have HH4 := Lib.hid h4
            clear h4
            by_cases h6 : 6 < f.size
            · exfalso
              rw [HFE.out] at h6
              exact absurd h6 (by decide)

            have HF : Hid (okW a.data.toList = true ∧ okF false f.data.toList = true) := ⟨okW_more h3 (by omega) HH4.out (allD_left HDA.out), okF_of (.inl rfl) h6 (allD_right HDA.out)⟩
            cases hz : allZ (a ++ f).data.toList with
            | true =>
              have HNO : Hid (RS ok true a f = .tuple #[.agg #[.bool false, .string ⟨#[]⟩, .string ⟨#[]⟩], .bool false]) := RS_no (by rw [hok.out, HF.out.1, HF.out.2, ← allZ_append, ← app_data, hz]; rfl)
              rw [hz] at HZ2
              clear hz
              go_wp2_with fail
              refine (HD2.out _).mono ?_
              rintro e _ ⟨rfl, rfl⟩
              go_wp2_with fail
              refine (HZ2.out _).mono ?_
              rintro e _ ⟨rfl, rfl⟩
              go_wp2_with fail
              refine bodyPost_ret (v := .tuple #[.agg #[.bool false, .string ⟨#[]⟩, .string ⟨#[]⟩], .bool false]) (by simp [results, Tryz.results66, go_sem]) rfl ⟨by rw [HNO.out], ?_⟩
              (show Bel w _; (repeat (first | exact Bel.refl _ | refine Bel.ext ?_ _ | refine Bel.alloc ?_ _ | refine Bel.drewN ?_ _ | refine Bel.drew ?_ | refine Bel.setCell ?_ _ _ ?_ | exact Nat.le_refl _ | (simp; done) | omega)))
            | false =>
              have HYES : Hid (RS ok true a f = .tuple #[.agg #[.bool true, .string a, .string f], .bool true]) := RS_yes (by rw [hok.out, HF.out.1, HF.out.2, ← allZ_append, ← app_data, hz]; rfl)
              rw [hz] at HZ2
              clear hz
              go_wp2_with fail
              refine (HD2.out _).mono ?_
              rintro e _ ⟨rfl, rfl⟩
              go_wp2_with fail
              refine (HZ2.out _).mono ?_
              rintro e _ ⟨rfl, rfl⟩
              go_wp2_with fail
              refine bodyPost_ret (v := .tuple #[.agg #[.bool true, .string a, .string ⟨#[]⟩], .bool true]) (by simp [results, Tryz.results66, go_sem]) rfl ⟨by rw [HYES.out, HFE.out], ?_⟩
              (show Bel w _; (repeat (first | exact Bel.refl _ | refine Bel.ext ?_ _ | refine Bel.alloc ?_ _ | refine Bel.drewN ?_ _ | refine Bel.drew ?_ | refine Bel.setCell ?_ _ _ ?_ | exact Nat.le_refl _ | (simp; done) | omega)))

        · rw [decide_eq_true hlt] at hok
          by_cases hf0 : f.size = 0
          · have HNO : Hid (RS ok true a f = .tuple #[.agg #[.bool false, .string ⟨#[]⟩, .string ⟨#[]⟩], .bool false]) := RS_no (by rw [hok.out, okF_none hf0]; simp)
            have hf1 : ((f.size : Int) == 0) = true := by rw [beq_iff_eq]; omega
            clear hf0
            go_wp2_with fail
            refine bodyPost_ret (v := .tuple #[.agg #[.bool false, .string ⟨#[]⟩, .string ⟨#[]⟩], .bool false]) (by simp [results, Tryz.results66, go_sem]) rfl ⟨by rw [HNO.out], ?_⟩
            (show Bel w _; (repeat (first | exact Bel.refl _ | refine Bel.ext ?_ _ | refine Bel.alloc ?_ _ | refine Bel.drewN ?_ _ | refine Bel.drew ?_ | refine Bel.setCell ?_ _ _ ?_ | exact Nat.le_refl _ | (simp; done) | omega)))

          have HF0 := Lib.hid hf0
          have hf1 : ((f.size : Int) == 0) = false := by rw [beq_eq_false_iff_ne]; omega
          clear hf0
          cases hda : allD (a ++ f).data.toList with
          | false =>
            have HNO : Hid (RS ok true a f = .tuple #[.agg #[.bool false, .string ⟨#[]⟩, .string ⟨#[]⟩], .bool false]) := RS_no (by rw [hok.out, okWF_digits hda]; simp)
            rw [hda] at HD
            clear hda
            go_wp2_with fail
            refine (HD.out _).mono ?_
            rintro e _ ⟨rfl, rfl⟩
            go_wp2_with fail
            refine bodyPost_ret (v := .tuple #[.agg #[.bool false, .string ⟨#[]⟩, .string ⟨#[]⟩], .bool false]) (by simp [results, Tryz.results66, go_sem]) rfl ⟨by rw [HNO.out], ?_⟩
            (show Bel w _; (repeat (first | exact Bel.refl _ | refine Bel.ext ?_ _ | refine Bel.alloc ?_ _ | refine Bel.drewN ?_ _ | refine Bel.drew ?_ | refine Bel.setCell ?_ _ _ ?_ | exact Nat.le_refl _ | (simp; done) | omega)))
          | true =>
          have HDA := Lib.hid hda
          rw [hda] at HD
          clear hda
          by_cases h1 : a.size < 1
          · have HNO : Hid (RS ok true a f = .tuple #[.agg #[.bool false, .string ⟨#[]⟩, .string ⟨#[]⟩], .bool false]) := RS_no (by rw [hok.out, okW_short h1]; simp)
            go_wp2_with fail
            refine (HD.out _).mono ?_
            rintro e _ ⟨rfl, rfl⟩
            go_wp2_with fail
            refine bodyPost_ret (v := .tuple #[.agg #[.bool false, .string ⟨#[]⟩, .string ⟨#[]⟩], .bool false]) (by simp [results, Tryz.results66, go_sem]) rfl ⟨by rw [HNO.out], ?_⟩
            (show Bel w _; (repeat (first | exact Bel.refl _ | refine Bel.ext ?_ _ | refine Bel.alloc ?_ _ | refine Bel.drewN ?_ _ | refine Bel.drew ?_ | refine Bel.setCell ?_ _ _ ?_ | exact Nat.le_refl _ | (simp; done) | omega)))

          by_cases h2 : 15 < a.size
          · have HNO : Hid (RS ok true a f = .tuple #[.agg #[.bool false, .string ⟨#[]⟩, .string ⟨#[]⟩], .bool false]) := RS_no (by rw [hok.out, okW_long h2]; simp)
            go_wp2_with fail
            refine (HD.out _).mono ?_
            rintro e _ ⟨rfl, rfl⟩
            go_wp2_with fail
            refine bodyPost_ret (v := .tuple #[.agg #[.bool false, .string ⟨#[]⟩, .string ⟨#[]⟩], .bool false]) (by simp [results, Tryz.results66, go_sem]) rfl ⟨by rw [HNO.out], ?_⟩
            (show Bel w _; (repeat (first | exact Bel.refl _ | refine Bel.ext ?_ _ | refine Bel.alloc ?_ _ | refine Bel.drewN ?_ _ | refine Bel.drew ?_ | refine Bel.setCell ?_ _ _ ?_ | exact Nat.le_refl _ | (simp; done) | omega)))

          have hlead : (¬ 1 < a.size) ∨ ∃ h : 1 < a.size, a[0].toNat ≠ 48 ∨ a[0].toNat = 48 := by
            by_cases h : 1 < a.size
            · exact .inr ⟨h, by omega⟩
            · exact .inl h
          rcases hlead with h3 | ⟨h3, h4 | h4⟩
          rotate_left 2
          · have HNO : Hid (RS ok true a f = .tuple #[.agg #[.bool false, .string ⟨#[]⟩, .string ⟨#[]⟩], .bool false]) := RS_no (by rw [hok.out, okW_lead h3 h4]; simp)
            have h5 : ((a[0].toNat : Int) == 48) = true := by rw [beq_iff_eq]; omega
            clear h4
            go_wp2_with fail
            refine (HD.out _).mono ?_
            rintro e _ ⟨rfl, rfl⟩
            go_wp2_with fail
            refine bodyPost_ret (v := .tuple #[.agg #[.bool false, .string ⟨#[]⟩, .string ⟨#[]⟩], .bool false]) (by simp [results, Tryz.results66, go_sem]) rfl ⟨by rw [HNO.out], ?_⟩
            (show Bel w _; (repeat (first | exact Bel.refl _ | refine Bel.ext ?_ _ | refine Bel.alloc ?_ _ | refine Bel.drewN ?_ _ | refine Bel.drew ?_ | refine Bel.setCell ?_ _ _ ?_ | exact Nat.le_refl _ | (simp; done) | omega)))

          · have h5 : True := trivial
            by_cases h6 : 6 < f.size
            · have HNO : Hid (RS ok true a f = .tuple #[.agg #[.bool false, .string ⟨#[]⟩, .string ⟨#[]⟩], .bool false]) := RS_no (by rw [hok.out, okF_long h6]; simp)
              go_wp2_with fail
              refine (HD.out _).mono ?_
              rintro e _ ⟨rfl, rfl⟩
              go_wp2_with fail
              refine bodyPost_ret (v := .tuple #[.agg #[.bool false, .string ⟨#[]⟩, .string ⟨#[]⟩], .bool false]) (by simp [results, Tryz.results66, go_sem]) rfl ⟨by rw [HNO.out], ?_⟩
              (show Bel w _; (repeat (first | exact Bel.refl _ | refine Bel.ext ?_ _ | refine Bel.alloc ?_ _ | refine Bel.drewN ?_ _ | refine Bel.drew ?_ | refine Bel.setCell ?_ _ _ ?_ | exact Nat.le_refl _ | (simp; done) | omega)))

            have HF : Hid (okW a.data.toList = true ∧ okF true f.data.toList = true) := ⟨okW_one (by omega) (allD_left HDA.out), okF_of (.inr HF0.out) h6 (allD_right HDA.out)⟩
            cases hz : allZ (a ++ f).data.toList with
            | true =>
              have HNO : Hid (RS ok true a f = .tuple #[.agg #[.bool false, .string ⟨#[]⟩, .string ⟨#[]⟩], .bool false]) := RS_no (by rw [hok.out, HF.out.1, HF.out.2, ← allZ_append, ← app_data, hz]; rfl)
              rw [hz] at HZ
              clear hz
              go_wp2_with fail
              refine (HD.out _).mono ?_
              rintro e _ ⟨rfl, rfl⟩
              go_wp2_with fail
              refine (HZ.out _).mono ?_
              rintro e _ ⟨rfl, rfl⟩
              go_wp2_with fail
              refine bodyPost_ret (v := .tuple #[.agg #[.bool false, .string ⟨#[]⟩, .string ⟨#[]⟩], .bool false]) (by simp [results, Tryz.results66, go_sem]) rfl ⟨by rw [HNO.out], ?_⟩
              (show Bel w _; (repeat (first | exact Bel.refl _ | refine Bel.ext ?_ _ | refine Bel.alloc ?_ _ | refine Bel.drewN ?_ _ | refine Bel.drew ?_ | refine Bel.setCell ?_ _ _ ?_ | exact Nat.le_refl _ | (simp; done) | omega)))
            | false =>
              have HYES : Hid (RS ok true a f = .tuple #[.agg #[.bool true, .string a, .string f], .bool true]) := RS_yes (by rw [hok.out, HF.out.1, HF.out.2, ← allZ_append, ← app_data, hz]; rfl)
              rw [hz] at HZ
              clear hz
              go_wp2_with fail
              refine (HD.out _).mono ?_
              rintro e _ ⟨rfl, rfl⟩
              go_wp2_with fail
              refine (HZ.out _).mono ?_
              rintro e _ ⟨rfl, rfl⟩
              go_wp2_with fail
              refine bodyPost_ret (v := .tuple #[.agg #[.bool true, .string a, .string f], .bool true]) (by simp [results, Tryz.results66, go_sem]) rfl ⟨by rw [HYES.out], ?_⟩
              (show Bel w _; (repeat (first | exact Bel.refl _ | refine Bel.ext ?_ _ | refine Bel.alloc ?_ _ | refine Bel.drewN ?_ _ | refine Bel.drew ?_ | refine Bel.setCell ?_ _ _ ?_ | exact Nat.le_refl _ | (simp; done) | omega)))
          · have h5 : ((a[0].toNat : Int) == 48) = false := by rw [beq_eq_false_iff_ne]; omega
            have HH4 := Lib.hid h4
            clear h4
            by_cases h6 : 6 < f.size
            · have HNO : Hid (RS ok true a f = .tuple #[.agg #[.bool false, .string ⟨#[]⟩, .string ⟨#[]⟩], .bool false]) := RS_no (by rw [hok.out, okF_long h6]; simp)
              go_wp2_with fail
              refine (HD.out _).mono ?_
              rintro e _ ⟨rfl, rfl⟩
              go_wp2_with fail
              refine bodyPost_ret (v := .tuple #[.agg #[.bool false, .string ⟨#[]⟩, .string ⟨#[]⟩], .bool false]) (by simp [results, Tryz.results66, go_sem]) rfl ⟨by rw [HNO.out], ?_⟩
              (show Bel w _; (repeat (first | exact Bel.refl _ | refine Bel.ext ?_ _ | refine Bel.alloc ?_ _ | refine Bel.drewN ?_ _ | refine Bel.drew ?_ | refine Bel.setCell ?_ _ _ ?_ | exact Nat.le_refl _ | (simp; done) | omega)))

            have HF : Hid (okW a.data.toList = true ∧ okF true f.data.toList = true) := ⟨okW_more h3 (by omega) HH4.out (allD_left HDA.out), okF_of (.inr HF0.out) h6 (allD_right HDA.out)⟩
            cases hz : allZ (a ++ f).data.toList with
            | true =>
              have HNO : Hid (RS ok true a f = .tuple #[.agg #[.bool false, .string ⟨#[]⟩, .string ⟨#[]⟩], .bool false]) := RS_no (by rw [hok.out, HF.out.1, HF.out.2, ← allZ_append, ← app_data, hz]; rfl)
              rw [hz] at HZ
              clear hz
              go_wp2_with fail
              refine (HD.out _).mono ?_
              rintro e _ ⟨rfl, rfl⟩
              go_wp2_with fail
              refine (HZ.out _).mono ?_
              rintro e _ ⟨rfl, rfl⟩
              go_wp2_with fail
              refine bodyPost_ret (v := .tuple #[.agg #[.bool false, .string ⟨#[]⟩, .string ⟨#[]⟩], .bool false]) (by simp [results, Tryz.results66, go_sem]) rfl ⟨by rw [HNO.out], ?_⟩
              (show Bel w _; (repeat (first | exact Bel.refl _ | refine Bel.ext ?_ _ | refine Bel.alloc ?_ _ | refine Bel.drewN ?_ _ | refine Bel.drew ?_ | refine Bel.setCell ?_ _ _ ?_ | exact Nat.le_refl _ | (simp; done) | omega)))
            | false =>
              have HYES : Hid (RS ok true a f = .tuple #[.agg #[.bool true, .string a, .string f], .bool true]) := RS_yes (by rw [hok.out, HF.out.1, HF.out.2, ← allZ_append, ← app_data, hz]; rfl)
              rw [hz] at HZ
              clear hz
              go_wp2_with fail
              refine (HD.out _).mono ?_
              rintro e _ ⟨rfl, rfl⟩
              go_wp2_with fail
              refine (HZ.out _).mono ?_
              rintro e _ ⟨rfl, rfl⟩
              go_wp2_with fail
              refine bodyPost_ret (v := .tuple #[.agg #[.bool true, .string a, .string f], .bool true]) (by simp [results, Tryz.results66, go_sem]) rfl ⟨by rw [HYES.out], ?_⟩
              (show Bel w _; (repeat (first | exact Bel.refl _ | refine Bel.ext ?_ _ | refine Bel.alloc ?_ _ | refine Bel.drewN ?_ _ | refine Bel.drew ?_ | refine Bel.setCell ?_ _ _ ?_ | exact Nat.le_refl _ | (simp; done) | omega)))

end Go.Proofs.YtadhblppeaamlaaGreatDoor
