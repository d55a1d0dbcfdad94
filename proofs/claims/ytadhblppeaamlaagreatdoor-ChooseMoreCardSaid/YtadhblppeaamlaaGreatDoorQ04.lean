/- Walks: the parts of a number by the program. -/
import Derived.Test.YtadhblppeaamlaaGreatDoorQ03
namespace Go.Proofs.YtadhblppeaamlaaGreatDoor
open Go.RowKit
attribute [local go_sem] Ext.cell Ext.frozen
attribute [local go_sem ↓] Go.wp_at_zero Go.wp_at_succ

/-- what split returns -/
def SplitPost (s : ByteArray) (e : Ending) : Prop :=
  e = .returned (.tuple #[.agg #[.bool (dNeg s.data.toList), .string (bs (dWhole s.data.toList)), .string (bs (dFrac s.data.toList))], .bool (dOk s.data.toList)])

set_option maxRecDepth 20000 in
set_option maxHeartbeats 40000000 in
theorem split_gen (s a f : ByteArray) (n p ok : Bool) (r : ByteArray) (w : World)
    (hC : Hid (∀ w, Calls Tryz.prog 89 #[.string s, .string ⟨#[45]⟩] w fun e w' => e = .returned (.tuple #[.string r, .bool n]) ∧ w = w'))
    (hC2 : Hid (∀ w, Calls Tryz.prog 90 #[.string r, .string ⟨#[46]⟩] w fun e w' => e = .returned (.tuple #[.string a, .string f, .bool p]) ∧ Below w.heap.size w w'))
    (ha : a.size ≤ 4611686018427387904) (hf : f.size ≤ 4611686018427387904)
    (hok : Hid (ok = (okW a.data.toList && okF p f.data.toList && !(n && (allZ a.data.toList && allZ f.data.toList))))) :
    Calls Tryz.prog 75 #[.string s] w fun e w' => e = .returned (.tuple #[.agg #[.bool n, .string a, .string f], .bool ok]) ∧ Below w.heap.size w w' := by
  have HDA := Lib.hid (fun w => digits_any a w (by omega))
  have HDF := Lib.hid (fun w => digits_any f w (by omega))
  have HZ := Lib.hid (fun w => numZero_any n a f w (by omega) (by omega))
  generalize (allZ a.data.toList && allZ f.data.toList) = z at *
  by_cases h1 : a.size < 1
  · have HOK : Hid (ok = false) := by have := hok.out; rw [okW_short h1] at this; simpa [Hid] using this
    go_enter Tryz.func75, Tryz.ntmps75
    go_wp2_with fail
    refine (hC.out _).mono ?_
    rintro e _ ⟨rfl, rfl⟩
    go_wp2_with fail
    refine (Calls.toExt (hC2.out _)).mono ?_
    rintro e _ ⟨rfl, x, rfl⟩
    have hz : w.heap.size < x.1.heap.size := by have := x.2.size; simp at this; omega
    have hz' : w.heap.size < x.1.heap.size + 1 := by omega
    go_wp2_with fail
    refine bodyPost_ret (v := .tuple #[.agg #[.bool n, .string a, .string f], .bool false]) (by simp [results, Tryz.results75, go_sem, hz]) rfl ⟨by rw [HOK.out], ?_⟩
    (show Bel w _; (repeat (first | exact Bel.refl _ | refine Bel.ext ?_ _ | refine Bel.alloc ?_ _ | refine Bel.drewN ?_ _ | refine Bel.drew ?_ | refine Bel.setCell ?_ _ _ ?_ | exact Nat.le_refl _ | (simp; done) | omega)))
  by_cases h2 : 15 < a.size
  · have HOK : Hid (ok = false) := by have := hok.out; rw [okW_long h2] at this; simpa [Hid] using this
    go_enter Tryz.func75, Tryz.ntmps75
    go_wp2_with fail
    refine (hC.out _).mono ?_
    rintro e _ ⟨rfl, rfl⟩
    go_wp2_with fail
    refine (Calls.toExt (hC2.out _)).mono ?_
    rintro e _ ⟨rfl, x, rfl⟩
    have hz : w.heap.size < x.1.heap.size := by have := x.2.size; simp at this; omega
    have hz' : w.heap.size < x.1.heap.size + 1 := by omega
    go_wp2_with fail
    refine bodyPost_ret (v := .tuple #[.agg #[.bool n, .string a, .string f], .bool false]) (by simp [results, Tryz.results75, go_sem, hz]) rfl ⟨by rw [HOK.out], ?_⟩
    (show Bel w _; (repeat (first | exact Bel.refl _ | refine Bel.ext ?_ _ | refine Bel.alloc ?_ _ | refine Bel.drewN ?_ _ | refine Bel.drew ?_ | refine Bel.setCell ?_ _ _ ?_ | exact Nat.le_refl _ | (simp; done) | omega)))
  cases hda : allD a.data.toList with
  | false =>
    have HOK : Hid (ok = false) := by have := hok.out; rw [okW_digits hda] at this; simpa [Hid] using this
    rw [hda] at HDA
    clear hda
    go_enter Tryz.func75, Tryz.ntmps75
    go_wp2_with fail
    refine (hC.out _).mono ?_
    rintro e _ ⟨rfl, rfl⟩
    go_wp2_with fail
    refine (Calls.toExt (hC2.out _)).mono ?_
    rintro e _ ⟨rfl, x, rfl⟩
    have hz : w.heap.size < x.1.heap.size := by have := x.2.size; simp at this; omega
    have hz' : w.heap.size < x.1.heap.size + 1 := by omega
    go_wp2_with fail
    refine (Calls.toExt (HDA.out _)).mono ?_
    rintro e _ ⟨rfl, y0, rfl⟩
    have hzy0 : x.1.heap.size < y0.1.heap.size := by have := y0.2.size; (try simp at this); omega
    have hzy0' : w.heap.size < y0.1.heap.size := by omega
    go_wp2_with fail
    refine bodyPost_ret (v := .tuple #[.agg #[.bool n, .string a, .string f], .bool false]) (by simp [results, Tryz.results75, go_sem, hz, hz']) rfl ⟨by rw [HOK.out], ?_⟩
    (show Bel w _; (repeat (first | exact Bel.refl _ | refine Bel.ext ?_ _ | refine Bel.alloc ?_ _ | refine Bel.drewN ?_ _ | refine Bel.drew ?_ | refine Bel.setCell ?_ _ _ ?_ | exact Nat.le_refl _ | (simp; done) | omega)))
  | true =>
  have HDAT := Lib.hid hda
  rw [hda] at HDA
  clear hda
  by_cases h3 : 1 < a.size
  · by_cases h48 : a[0].toNat = 48
    · have HOK : Hid (ok = false) := by have := hok.out; rw [okW_lead h3 h48] at this; simpa [Hid] using this
      have h5 : ((a[0].toNat : Int) == 48) = true := by simp; omega
      clear h48
      go_enter Tryz.func75, Tryz.ntmps75
      go_wp2_with fail
      refine (hC.out _).mono ?_
      rintro e _ ⟨rfl, rfl⟩
      go_wp2_with fail
      refine (Calls.toExt (hC2.out _)).mono ?_
      rintro e _ ⟨rfl, x, rfl⟩
      have hz : w.heap.size < x.1.heap.size := by have := x.2.size; simp at this; omega
      have hz' : w.heap.size < x.1.heap.size + 1 := by omega
      go_wp2_with fail
      refine (Calls.toExt (HDA.out _)).mono ?_
      rintro e _ ⟨rfl, y0, rfl⟩
      have hzy0 : x.1.heap.size < y0.1.heap.size := by have := y0.2.size; (try simp at this); omega
      have hzy0' : w.heap.size < y0.1.heap.size := by omega
      go_wp2_with fail
      refine bodyPost_ret (v := .tuple #[.agg #[.bool n, .string a, .string f], .bool false]) (by simp [results, Tryz.results75, go_sem, hz, hz']) rfl ⟨by rw [HOK.out], ?_⟩
      (show Bel w _; (repeat (first | exact Bel.refl _ | refine Bel.ext ?_ _ | refine Bel.alloc ?_ _ | refine Bel.drewN ?_ _ | refine Bel.drew ?_ | refine Bel.setCell ?_ _ _ ?_ | exact Nat.le_refl _ | (simp; done) | omega)))
    · have HW := Lib.hid (okW_more h3 (by omega) h48 HDAT.out)
      have h5 : ((a[0].toNat : Int) == 48) = false := by simp; omega
      clear h48
      have HOKW : Hid (ok = (okF p f.data.toList && !(n && z))) := by have := hok.out; rw [HW.out, Bool.true_and] at this; exact this
      cases p with
      | true =>
        by_cases hf0 : f.size = 0
        · have HOK : Hid (ok = false) := by have := HOKW.out; rw [okF_none hf0] at this; simpa [Hid] using this
          have hf1 : ((f.size : Int) == 0) = true := by rw [beq_iff_eq]; omega
          clear hf0
          go_enter Tryz.func75, Tryz.ntmps75
          go_wp2_with fail
          refine (hC.out _).mono ?_
          rintro e _ ⟨rfl, rfl⟩
          go_wp2_with fail
          refine (Calls.toExt (hC2.out _)).mono ?_
          rintro e _ ⟨rfl, x, rfl⟩
          have hz : w.heap.size < x.1.heap.size := by have := x.2.size; simp at this; omega
          have hz' : w.heap.size < x.1.heap.size + 1 := by omega
          go_wp2_with fail
          refine (Calls.toExt (HDA.out _)).mono ?_
          rintro e _ ⟨rfl, y0, rfl⟩
          have hzy0 : x.1.heap.size < y0.1.heap.size := by have := y0.2.size; (try simp at this); omega
          have hzy0' : w.heap.size < y0.1.heap.size := by omega
          go_wp2_with fail
          refine bodyPost_ret (v := .tuple #[.agg #[.bool n, .string a, .string f], .bool false]) (by simp [results, Tryz.results75, go_sem, hz, hz']) rfl ⟨by rw [HOK.out], ?_⟩
          (show Bel w _; (repeat (first | exact Bel.refl _ | refine Bel.ext ?_ _ | refine Bel.alloc ?_ _ | refine Bel.drewN ?_ _ | refine Bel.drew ?_ | refine Bel.setCell ?_ _ _ ?_ | exact Nat.le_refl _ | (simp; done) | omega)))

        have hf1 : ((f.size : Int) == 0) = false := by rw [beq_eq_false_iff_ne]; omega
        by_cases hf6 : 6 < f.size
        · have HOK : Hid (ok = false) := by have := HOKW.out; rw [okF_long hf6] at this; simpa [Hid] using this
          go_enter Tryz.func75, Tryz.ntmps75
          go_wp2_with fail
          refine (hC.out _).mono ?_
          rintro e _ ⟨rfl, rfl⟩
          go_wp2_with fail
          refine (Calls.toExt (hC2.out _)).mono ?_
          rintro e _ ⟨rfl, x, rfl⟩
          have hz : w.heap.size < x.1.heap.size := by have := x.2.size; simp at this; omega
          have hz' : w.heap.size < x.1.heap.size + 1 := by omega
          go_wp2_with fail
          refine (Calls.toExt (HDA.out _)).mono ?_
          rintro e _ ⟨rfl, y0, rfl⟩
          have hzy0 : x.1.heap.size < y0.1.heap.size := by have := y0.2.size; (try simp at this); omega
          have hzy0' : w.heap.size < y0.1.heap.size := by omega
          go_wp2_with fail
          refine bodyPost_ret (v := .tuple #[.agg #[.bool n, .string a, .string f], .bool false]) (by simp [results, Tryz.results75, go_sem, hz, hz']) rfl ⟨by rw [HOK.out], ?_⟩
          (show Bel w _; (repeat (first | exact Bel.refl _ | refine Bel.ext ?_ _ | refine Bel.alloc ?_ _ | refine Bel.drewN ?_ _ | refine Bel.drew ?_ | refine Bel.setCell ?_ _ _ ?_ | exact Nat.le_refl _ | (simp; done) | omega)))

        cases hdf : allD f.data.toList with
        | false =>
          have HOK : Hid (ok = false) := by have := HOKW.out; rw [okF_digits hdf] at this; simpa [Hid] using this
          rw [hdf] at HDF
          clear hdf
          go_enter Tryz.func75, Tryz.ntmps75
          go_wp2_with fail
          refine (hC.out _).mono ?_
          rintro e _ ⟨rfl, rfl⟩
          go_wp2_with fail
          refine (Calls.toExt (hC2.out _)).mono ?_
          rintro e _ ⟨rfl, x, rfl⟩
          have hz : w.heap.size < x.1.heap.size := by have := x.2.size; simp at this; omega
          have hz' : w.heap.size < x.1.heap.size + 1 := by omega
          go_wp2_with fail
          refine (Calls.toExt (HDA.out _)).mono ?_
          rintro e _ ⟨rfl, y0, rfl⟩
          have hzy0 : x.1.heap.size < y0.1.heap.size := by have := y0.2.size; (try simp at this); omega
          have hzy0' : w.heap.size < y0.1.heap.size := by omega
          go_wp2_with fail
          refine (Calls.toExt (HDF.out _)).mono ?_
          rintro e _ ⟨rfl, y1, rfl⟩
          have hzy1 : x.1.heap.size < y1.1.heap.size := by have := y1.2.size; (try simp at this); omega
          have hzy1' : w.heap.size < y1.1.heap.size := by omega
          go_wp2_with fail
          refine bodyPost_ret (v := .tuple #[.agg #[.bool n, .string a, .string f], .bool false]) (by simp [results, Tryz.results75, go_sem, hz, hz', hzy0']) rfl ⟨by rw [HOK.out], ?_⟩
          (show Bel w _; (repeat (first | exact Bel.refl _ | refine Bel.ext ?_ _ | refine Bel.alloc ?_ _ | refine Bel.drewN ?_ _ | refine Bel.drew ?_ | refine Bel.setCell ?_ _ _ ?_ | exact Nat.le_refl _ | (simp; done) | omega)))

        | true =>
          have HOKF : Hid (ok = !(n && z)) := by have := HOKW.out; rw [okF_true hf0 hf6 hdf, Bool.true_and] at this; exact this
          rw [hdf] at HDF
          clear hdf hf0
          cases n with
          | false =>
            have HOK : Hid (ok = true) := by have := HOKF.out; simpa [Hid] using this
            go_enter Tryz.func75, Tryz.ntmps75
            go_wp2_with fail
            refine (hC.out _).mono ?_
            rintro e _ ⟨rfl, rfl⟩
            go_wp2_with fail
            refine (Calls.toExt (hC2.out _)).mono ?_
            rintro e _ ⟨rfl, x, rfl⟩
            have hz : w.heap.size < x.1.heap.size := by have := x.2.size; simp at this; omega
            have hz' : w.heap.size < x.1.heap.size + 1 := by omega
            go_wp2_with fail
            refine (Calls.toExt (HDA.out _)).mono ?_
            rintro e _ ⟨rfl, y0, rfl⟩
            have hzy0 : x.1.heap.size < y0.1.heap.size := by have := y0.2.size; (try simp at this); omega
            have hzy0' : w.heap.size < y0.1.heap.size := by omega
            go_wp2_with fail
            refine (Calls.toExt (HDF.out _)).mono ?_
            rintro e _ ⟨rfl, y1, rfl⟩
            have hzy1 : x.1.heap.size < y1.1.heap.size := by have := y1.2.size; (try simp at this); omega
            have hzy1' : w.heap.size < y1.1.heap.size := by omega
            go_wp2_with fail
            go_region_with (fail)
            all_goals
              go_wp2_with fail
              refine bodyPost_ret (v := .tuple #[.agg #[.bool false, .string a, .string f], .bool true]) (by simp [results, Tryz.results75, go_sem, hz, hz', hzy0']) rfl ⟨by rw [HOK.out], ?_⟩
              (show Bel w _; (repeat (first | exact Bel.refl _ | refine Bel.ext ?_ _ | refine Bel.alloc ?_ _ | refine Bel.drewN ?_ _ | refine Bel.drew ?_ | refine Bel.setCell ?_ _ _ ?_ | exact Nat.le_refl _ | (simp; done) | omega)))

          | true =>
            have HOK : Hid (ok = !z) := by have := HOKF.out; simpa [Hid] using this
            go_enter Tryz.func75, Tryz.ntmps75
            go_wp2_with fail
            refine (hC.out _).mono ?_
            rintro e _ ⟨rfl, rfl⟩
            go_wp2_with fail
            refine (Calls.toExt (hC2.out _)).mono ?_
            rintro e _ ⟨rfl, x, rfl⟩
            have hz : w.heap.size < x.1.heap.size := by have := x.2.size; simp at this; omega
            have hz' : w.heap.size < x.1.heap.size + 1 := by omega
            go_wp2_with fail
            refine (Calls.toExt (HDA.out _)).mono ?_
            rintro e _ ⟨rfl, y0, rfl⟩
            have hzy0 : x.1.heap.size < y0.1.heap.size := by have := y0.2.size; (try simp at this); omega
            have hzy0' : w.heap.size < y0.1.heap.size := by omega
            go_wp2_with fail
            refine (Calls.toExt (HDF.out _)).mono ?_
            rintro e _ ⟨rfl, y1, rfl⟩
            have hzy1 : x.1.heap.size < y1.1.heap.size := by have := y1.2.size; (try simp at this); omega
            have hzy1' : w.heap.size < y1.1.heap.size := by omega
            go_wp2_with fail
            have d0 : y1.1.cell? ⟨w.heap.size, 0, none⟩ = some (.bool false) := by simp [go_sem, hz, hz', hzy0']
            have d1 : y1.1.cell? ⟨w.heap.size, 1, none⟩ = some (.string ⟨#[]⟩) := by simp [go_sem, hz, hz', hzy0']
            have d2 : y1.1.cell? ⟨w.heap.size, 2, none⟩ = some (.string ⟨#[]⟩) := by simp [go_sem, hz, hz', hzy0']
            have q0 : y1.1.cell? ⟨x.1.heap.size, 0, none⟩ = some (.bool true) := by simp [go_sem, hzy0]
            have q1 : y1.1.cell? ⟨x.1.heap.size, 1, none⟩ = some (.string a) := by simp [go_sem, hzy0]
            have q2 : y1.1.cell? ⟨x.1.heap.size, 2, none⟩ = some (.string f) := by simp [go_sem, hzy0]
            have g0 : y1.1.frozen? ⟨w.heap.size, 0, none⟩ = false := by simp [go_sem, hz, hz', hzy0']
            have g1 : y1.1.frozen? ⟨w.heap.size, 1, none⟩ = false := by simp [go_sem, hz, hz', hzy0']
            have g2 : y1.1.frozen? ⟨w.heap.size, 2, none⟩ = false := by simp [go_sem, hz, hz', hzy0']
            have hne : x.1.heap.size ≠ w.heap.size := by omega
            have hqlt : x.1.heap.size < y1.1.heap.size := hzy1
            go_region_held3 (fun w' => w'.cell? ⟨x.1.heap.size, 0, none⟩ = some (.bool true) ∧ w'.cell? ⟨x.1.heap.size, 1, none⟩ = some (.string a) ∧ w'.cell? ⟨x.1.heap.size, 2, none⟩ = some (.string f))
              ((go_split_ands; (first | exact ⟨q0, q1, q2⟩ | exact ⟨rq0, rq1, rq2⟩ | (simp [World.cell?_setCell_other]; (refine ⟨?_, ?_, ?_⟩ <;> assumption)))))
              ((go_at_call 92; refine (Calls.toExt (HZ.out _)).mono ?_; rintro e _ ⟨rfl, y2, rfl⟩; have hzy2 : x.1.heap.size < y2.1.heap.size := (by (have := y2.2.size; (try simp at this); omega)); have hzy2' : w.heap.size < y2.1.heap.size := (by omega); have rd0 := (y2.2.cell (p := ⟨w.heap.size, 0, none⟩) (by simpa using hzy1')).trans d0; have rd1 := (y2.2.cell (p := ⟨w.heap.size, 1, none⟩) (by simpa using hzy1')).trans d1; have rd2 := (y2.2.cell (p := ⟨w.heap.size, 2, none⟩) (by simpa using hzy1')).trans d2; have rq0 := (y2.2.cell (p := ⟨x.1.heap.size, 0, none⟩) (by simpa using hzy1)).trans q0; have rq1 := (y2.2.cell (p := ⟨x.1.heap.size, 1, none⟩) (by simpa using hzy1)).trans q1; have rq2 := (y2.2.cell (p := ⟨x.1.heap.size, 2, none⟩) (by simpa using hzy1)).trans q2; have rg0 := (y2.2.frozen (p := ⟨w.heap.size, 0, none⟩) (by simpa using hzy1')).trans g0; have rg1 := (y2.2.frozen (p := ⟨w.heap.size, 1, none⟩) (by simpa using hzy1')).trans g1; have rg2 := (y2.2.frozen (p := ⟨w.heap.size, 2, none⟩) (by simpa using hzy1')).trans g2))
            all_goals
              go_split_ands
              go_wp2_with fail
              refine bodyPost_ret (v := .tuple #[.agg #[.bool true, .string a, .string f], .bool (!z)]) (by simp [results, Tryz.results75, go_sem, rd0, rd1, rd2]) rfl ⟨by rw [HOK.out], ?_⟩
              (show Bel w _; (repeat (first | exact Bel.refl _ | refine Bel.ext ?_ _ | refine Bel.alloc ?_ _ | refine Bel.drewN ?_ _ | refine Bel.drew ?_ | refine Bel.setCell ?_ _ _ ?_ | exact Nat.le_refl _ | (simp; done) | omega)))

      | false =>
        by_cases hf6 : 6 < f.size
        · have HOK : Hid (ok = false) := by have := HOKW.out; rw [okF_long hf6] at this; simpa [Hid] using this
          go_enter Tryz.func75, Tryz.ntmps75
          go_wp2_with fail
          refine (hC.out _).mono ?_
          rintro e _ ⟨rfl, rfl⟩
          go_wp2_with fail
          refine (Calls.toExt (hC2.out _)).mono ?_
          rintro e _ ⟨rfl, x, rfl⟩
          have hz : w.heap.size < x.1.heap.size := by have := x.2.size; simp at this; omega
          have hz' : w.heap.size < x.1.heap.size + 1 := by omega
          go_wp2_with fail
          refine (Calls.toExt (HDA.out _)).mono ?_
          rintro e _ ⟨rfl, y0, rfl⟩
          have hzy0 : x.1.heap.size < y0.1.heap.size := by have := y0.2.size; (try simp at this); omega
          have hzy0' : w.heap.size < y0.1.heap.size := by omega
          go_wp2_with fail
          refine bodyPost_ret (v := .tuple #[.agg #[.bool n, .string a, .string f], .bool false]) (by simp [results, Tryz.results75, go_sem, hz, hz']) rfl ⟨by rw [HOK.out], ?_⟩
          (show Bel w _; (repeat (first | exact Bel.refl _ | refine Bel.ext ?_ _ | refine Bel.alloc ?_ _ | refine Bel.drewN ?_ _ | refine Bel.drew ?_ | refine Bel.setCell ?_ _ _ ?_ | exact Nat.le_refl _ | (simp; done) | omega)))

        cases hdf : allD f.data.toList with
        | false =>
          have HOK : Hid (ok = false) := by have := HOKW.out; rw [okF_digits hdf] at this; simpa [Hid] using this
          rw [hdf] at HDF
          clear hdf
          go_enter Tryz.func75, Tryz.ntmps75
          go_wp2_with fail
          refine (hC.out _).mono ?_
          rintro e _ ⟨rfl, rfl⟩
          go_wp2_with fail
          refine (Calls.toExt (hC2.out _)).mono ?_
          rintro e _ ⟨rfl, x, rfl⟩
          have hz : w.heap.size < x.1.heap.size := by have := x.2.size; simp at this; omega
          have hz' : w.heap.size < x.1.heap.size + 1 := by omega
          go_wp2_with fail
          refine (Calls.toExt (HDA.out _)).mono ?_
          rintro e _ ⟨rfl, y0, rfl⟩
          have hzy0 : x.1.heap.size < y0.1.heap.size := by have := y0.2.size; (try simp at this); omega
          have hzy0' : w.heap.size < y0.1.heap.size := by omega
          go_wp2_with fail
          refine (Calls.toExt (HDF.out _)).mono ?_
          rintro e _ ⟨rfl, y1, rfl⟩
          have hzy1 : x.1.heap.size < y1.1.heap.size := by have := y1.2.size; (try simp at this); omega
          have hzy1' : w.heap.size < y1.1.heap.size := by omega
          go_wp2_with fail
          refine bodyPost_ret (v := .tuple #[.agg #[.bool n, .string a, .string f], .bool false]) (by simp [results, Tryz.results75, go_sem, hz, hz', hzy0']) rfl ⟨by rw [HOK.out], ?_⟩
          (show Bel w _; (repeat (first | exact Bel.refl _ | refine Bel.ext ?_ _ | refine Bel.alloc ?_ _ | refine Bel.drewN ?_ _ | refine Bel.drew ?_ | refine Bel.setCell ?_ _ _ ?_ | exact Nat.le_refl _ | (simp; done) | omega)))

        | true =>
          have HOKF : Hid (ok = !(n && z)) := by have := HOKW.out; rw [okF_false hf6 hdf, Bool.true_and] at this; exact this
          rw [hdf] at HDF
          clear hdf
          cases n with
          | false =>
            have HOK : Hid (ok = true) := by have := HOKF.out; simpa [Hid] using this
            go_enter Tryz.func75, Tryz.ntmps75
            go_wp2_with fail
            refine (hC.out _).mono ?_
            rintro e _ ⟨rfl, rfl⟩
            go_wp2_with fail
            refine (Calls.toExt (hC2.out _)).mono ?_
            rintro e _ ⟨rfl, x, rfl⟩
            have hz : w.heap.size < x.1.heap.size := by have := x.2.size; simp at this; omega
            have hz' : w.heap.size < x.1.heap.size + 1 := by omega
            go_wp2_with fail
            refine (Calls.toExt (HDA.out _)).mono ?_
            rintro e _ ⟨rfl, y0, rfl⟩
            have hzy0 : x.1.heap.size < y0.1.heap.size := by have := y0.2.size; (try simp at this); omega
            have hzy0' : w.heap.size < y0.1.heap.size := by omega
            go_wp2_with fail
            refine (Calls.toExt (HDF.out _)).mono ?_
            rintro e _ ⟨rfl, y1, rfl⟩
            have hzy1 : x.1.heap.size < y1.1.heap.size := by have := y1.2.size; (try simp at this); omega
            have hzy1' : w.heap.size < y1.1.heap.size := by omega
            go_wp2_with fail
            go_region_with (fail)
            all_goals
              go_wp2_with fail
              refine bodyPost_ret (v := .tuple #[.agg #[.bool false, .string a, .string f], .bool true]) (by simp [results, Tryz.results75, go_sem, hz, hz', hzy0']) rfl ⟨by rw [HOK.out], ?_⟩
              (show Bel w _; (repeat (first | exact Bel.refl _ | refine Bel.ext ?_ _ | refine Bel.alloc ?_ _ | refine Bel.drewN ?_ _ | refine Bel.drew ?_ | refine Bel.setCell ?_ _ _ ?_ | exact Nat.le_refl _ | (simp; done) | omega)))

          | true =>
            have HOK : Hid (ok = !z) := by have := HOKF.out; simpa [Hid] using this
            go_enter Tryz.func75, Tryz.ntmps75
            go_wp2_with fail
            refine (hC.out _).mono ?_
            rintro e _ ⟨rfl, rfl⟩
            go_wp2_with fail
            refine (Calls.toExt (hC2.out _)).mono ?_
            rintro e _ ⟨rfl, x, rfl⟩
            have hz : w.heap.size < x.1.heap.size := by have := x.2.size; simp at this; omega
            have hz' : w.heap.size < x.1.heap.size + 1 := by omega
            go_wp2_with fail
            refine (Calls.toExt (HDA.out _)).mono ?_
            rintro e _ ⟨rfl, y0, rfl⟩
            have hzy0 : x.1.heap.size < y0.1.heap.size := by have := y0.2.size; (try simp at this); omega
            have hzy0' : w.heap.size < y0.1.heap.size := by omega
            go_wp2_with fail
            refine (Calls.toExt (HDF.out _)).mono ?_
            rintro e _ ⟨rfl, y1, rfl⟩
            have hzy1 : x.1.heap.size < y1.1.heap.size := by have := y1.2.size; (try simp at this); omega
            have hzy1' : w.heap.size < y1.1.heap.size := by omega
            go_wp2_with fail
            have d0 : y1.1.cell? ⟨w.heap.size, 0, none⟩ = some (.bool false) := by simp [go_sem, hz, hz', hzy0']
            have d1 : y1.1.cell? ⟨w.heap.size, 1, none⟩ = some (.string ⟨#[]⟩) := by simp [go_sem, hz, hz', hzy0']
            have d2 : y1.1.cell? ⟨w.heap.size, 2, none⟩ = some (.string ⟨#[]⟩) := by simp [go_sem, hz, hz', hzy0']
            have q0 : y1.1.cell? ⟨x.1.heap.size, 0, none⟩ = some (.bool true) := by simp [go_sem, hzy0]
            have q1 : y1.1.cell? ⟨x.1.heap.size, 1, none⟩ = some (.string a) := by simp [go_sem, hzy0]
            have q2 : y1.1.cell? ⟨x.1.heap.size, 2, none⟩ = some (.string f) := by simp [go_sem, hzy0]
            have g0 : y1.1.frozen? ⟨w.heap.size, 0, none⟩ = false := by simp [go_sem, hz, hz', hzy0']
            have g1 : y1.1.frozen? ⟨w.heap.size, 1, none⟩ = false := by simp [go_sem, hz, hz', hzy0']
            have g2 : y1.1.frozen? ⟨w.heap.size, 2, none⟩ = false := by simp [go_sem, hz, hz', hzy0']
            have hne : x.1.heap.size ≠ w.heap.size := by omega
            have hqlt : x.1.heap.size < y1.1.heap.size := hzy1
            go_region_held3 (fun w' => w'.cell? ⟨x.1.heap.size, 0, none⟩ = some (.bool true) ∧ w'.cell? ⟨x.1.heap.size, 1, none⟩ = some (.string a) ∧ w'.cell? ⟨x.1.heap.size, 2, none⟩ = some (.string f))
              ((go_split_ands; (first | exact ⟨q0, q1, q2⟩ | exact ⟨rq0, rq1, rq2⟩ | (simp [World.cell?_setCell_other]; (refine ⟨?_, ?_, ?_⟩ <;> assumption)))))
              ((go_at_call 92; refine (Calls.toExt (HZ.out _)).mono ?_; rintro e _ ⟨rfl, y2, rfl⟩; have hzy2 : x.1.heap.size < y2.1.heap.size := (by (have := y2.2.size; (try simp at this); omega)); have hzy2' : w.heap.size < y2.1.heap.size := (by omega); have rd0 := (y2.2.cell (p := ⟨w.heap.size, 0, none⟩) (by simpa using hzy1')).trans d0; have rd1 := (y2.2.cell (p := ⟨w.heap.size, 1, none⟩) (by simpa using hzy1')).trans d1; have rd2 := (y2.2.cell (p := ⟨w.heap.size, 2, none⟩) (by simpa using hzy1')).trans d2; have rq0 := (y2.2.cell (p := ⟨x.1.heap.size, 0, none⟩) (by simpa using hzy1)).trans q0; have rq1 := (y2.2.cell (p := ⟨x.1.heap.size, 1, none⟩) (by simpa using hzy1)).trans q1; have rq2 := (y2.2.cell (p := ⟨x.1.heap.size, 2, none⟩) (by simpa using hzy1)).trans q2; have rg0 := (y2.2.frozen (p := ⟨w.heap.size, 0, none⟩) (by simpa using hzy1')).trans g0; have rg1 := (y2.2.frozen (p := ⟨w.heap.size, 1, none⟩) (by simpa using hzy1')).trans g1; have rg2 := (y2.2.frozen (p := ⟨w.heap.size, 2, none⟩) (by simpa using hzy1')).trans g2))
            all_goals
              go_split_ands
              go_wp2_with fail
              refine bodyPost_ret (v := .tuple #[.agg #[.bool true, .string a, .string f], .bool (!z)]) (by simp [results, Tryz.results75, go_sem, rd0, rd1, rd2]) rfl ⟨by rw [HOK.out], ?_⟩
              (show Bel w _; (repeat (first | exact Bel.refl _ | refine Bel.ext ?_ _ | refine Bel.alloc ?_ _ | refine Bel.drewN ?_ _ | refine Bel.drew ?_ | refine Bel.setCell ?_ _ _ ?_ | exact Nat.le_refl _ | (simp; done) | omega)))

  · have HW := Lib.hid (okW_one (show a.size = 1 by omega) HDAT.out)
    have HOKW : Hid (ok = (okF p f.data.toList && !(n && z))) := by have := hok.out; rw [HW.out, Bool.true_and] at this; exact this
    cases p with
    | true =>
      by_cases hf0 : f.size = 0
      · have HOK : Hid (ok = false) := by have := HOKW.out; rw [okF_none hf0] at this; simpa [Hid] using this
        have hf1 : ((f.size : Int) == 0) = true := by rw [beq_iff_eq]; omega
        clear hf0
        go_enter Tryz.func75, Tryz.ntmps75
        go_wp2_with fail
        refine (hC.out _).mono ?_
        rintro e _ ⟨rfl, rfl⟩
        go_wp2_with fail
        refine (Calls.toExt (hC2.out _)).mono ?_
        rintro e _ ⟨rfl, x, rfl⟩
        have hz : w.heap.size < x.1.heap.size := by have := x.2.size; simp at this; omega
        have hz' : w.heap.size < x.1.heap.size + 1 := by omega
        go_wp2_with fail
        refine (Calls.toExt (HDA.out _)).mono ?_
        rintro e _ ⟨rfl, y0, rfl⟩
        have hzy0 : x.1.heap.size < y0.1.heap.size := by have := y0.2.size; (try simp at this); omega
        have hzy0' : w.heap.size < y0.1.heap.size := by omega
        go_wp2_with fail
        refine bodyPost_ret (v := .tuple #[.agg #[.bool n, .string a, .string f], .bool false]) (by simp [results, Tryz.results75, go_sem, hz, hz']) rfl ⟨by rw [HOK.out], ?_⟩
        (show Bel w _; (repeat (first | exact Bel.refl _ | refine Bel.ext ?_ _ | refine Bel.alloc ?_ _ | refine Bel.drewN ?_ _ | refine Bel.drew ?_ | refine Bel.setCell ?_ _ _ ?_ | exact Nat.le_refl _ | (simp; done) | omega)))

      have hf1 : ((f.size : Int) == 0) = false := by rw [beq_eq_false_iff_ne]; omega
      by_cases hf6 : 6 < f.size
      · have HOK : Hid (ok = false) := by have := HOKW.out; rw [okF_long hf6] at this; simpa [Hid] using this
        go_enter Tryz.func75, Tryz.ntmps75
        go_wp2_with fail
        refine (hC.out _).mono ?_
        rintro e _ ⟨rfl, rfl⟩
        go_wp2_with fail
        refine (Calls.toExt (hC2.out _)).mono ?_
        rintro e _ ⟨rfl, x, rfl⟩
        have hz : w.heap.size < x.1.heap.size := by have := x.2.size; simp at this; omega
        have hz' : w.heap.size < x.1.heap.size + 1 := by omega
        go_wp2_with fail
        refine (Calls.toExt (HDA.out _)).mono ?_
        rintro e _ ⟨rfl, y0, rfl⟩
        have hzy0 : x.1.heap.size < y0.1.heap.size := by have := y0.2.size; (try simp at this); omega
        have hzy0' : w.heap.size < y0.1.heap.size := by omega
        go_wp2_with fail
        refine bodyPost_ret (v := .tuple #[.agg #[.bool n, .string a, .string f], .bool false]) (by simp [results, Tryz.results75, go_sem, hz, hz']) rfl ⟨by rw [HOK.out], ?_⟩
        (show Bel w _; (repeat (first | exact Bel.refl _ | refine Bel.ext ?_ _ | refine Bel.alloc ?_ _ | refine Bel.drewN ?_ _ | refine Bel.drew ?_ | refine Bel.setCell ?_ _ _ ?_ | exact Nat.le_refl _ | (simp; done) | omega)))

      cases hdf : allD f.data.toList with
      | false =>
        have HOK : Hid (ok = false) := by have := HOKW.out; rw [okF_digits hdf] at this; simpa [Hid] using this
        rw [hdf] at HDF
        clear hdf
        go_enter Tryz.func75, Tryz.ntmps75
        go_wp2_with fail
        refine (hC.out _).mono ?_
        rintro e _ ⟨rfl, rfl⟩
        go_wp2_with fail
        refine (Calls.toExt (hC2.out _)).mono ?_
        rintro e _ ⟨rfl, x, rfl⟩
        have hz : w.heap.size < x.1.heap.size := by have := x.2.size; simp at this; omega
        have hz' : w.heap.size < x.1.heap.size + 1 := by omega
        go_wp2_with fail
        refine (Calls.toExt (HDA.out _)).mono ?_
        rintro e _ ⟨rfl, y0, rfl⟩
        have hzy0 : x.1.heap.size < y0.1.heap.size := by have := y0.2.size; (try simp at this); omega
        have hzy0' : w.heap.size < y0.1.heap.size := by omega
        go_wp2_with fail
        refine (Calls.toExt (HDF.out _)).mono ?_
        rintro e _ ⟨rfl, y1, rfl⟩
        have hzy1 : x.1.heap.size < y1.1.heap.size := by have := y1.2.size; (try simp at this); omega
        have hzy1' : w.heap.size < y1.1.heap.size := by omega
        go_wp2_with fail
        refine bodyPost_ret (v := .tuple #[.agg #[.bool n, .string a, .string f], .bool false]) (by simp [results, Tryz.results75, go_sem, hz, hz', hzy0']) rfl ⟨by rw [HOK.out], ?_⟩
        (show Bel w _; (repeat (first | exact Bel.refl _ | refine Bel.ext ?_ _ | refine Bel.alloc ?_ _ | refine Bel.drewN ?_ _ | refine Bel.drew ?_ | refine Bel.setCell ?_ _ _ ?_ | exact Nat.le_refl _ | (simp; done) | omega)))

      | true =>
        have HOKF : Hid (ok = !(n && z)) := by have := HOKW.out; rw [okF_true hf0 hf6 hdf, Bool.true_and] at this; exact this
        rw [hdf] at HDF
        clear hdf hf0
        cases n with
        | false =>
          have HOK : Hid (ok = true) := by have := HOKF.out; simpa [Hid] using this
          go_enter Tryz.func75, Tryz.ntmps75
          go_wp2_with fail
          refine (hC.out _).mono ?_
          rintro e _ ⟨rfl, rfl⟩
          go_wp2_with fail
          refine (Calls.toExt (hC2.out _)).mono ?_
          rintro e _ ⟨rfl, x, rfl⟩
          have hz : w.heap.size < x.1.heap.size := by have := x.2.size; simp at this; omega
          have hz' : w.heap.size < x.1.heap.size + 1 := by omega
          go_wp2_with fail
          refine (Calls.toExt (HDA.out _)).mono ?_
          rintro e _ ⟨rfl, y0, rfl⟩
          have hzy0 : x.1.heap.size < y0.1.heap.size := by have := y0.2.size; (try simp at this); omega
          have hzy0' : w.heap.size < y0.1.heap.size := by omega
          go_wp2_with fail
          refine (Calls.toExt (HDF.out _)).mono ?_
          rintro e _ ⟨rfl, y1, rfl⟩
          have hzy1 : x.1.heap.size < y1.1.heap.size := by have := y1.2.size; (try simp at this); omega
          have hzy1' : w.heap.size < y1.1.heap.size := by omega
          go_wp2_with fail
          go_region_with (fail)
          all_goals
            go_wp2_with fail
            refine bodyPost_ret (v := .tuple #[.agg #[.bool false, .string a, .string f], .bool true]) (by simp [results, Tryz.results75, go_sem, hz, hz', hzy0']) rfl ⟨by rw [HOK.out], ?_⟩
            (show Bel w _; (repeat (first | exact Bel.refl _ | refine Bel.ext ?_ _ | refine Bel.alloc ?_ _ | refine Bel.drewN ?_ _ | refine Bel.drew ?_ | refine Bel.setCell ?_ _ _ ?_ | exact Nat.le_refl _ | (simp; done) | omega)))

        | true =>
          have HOK : Hid (ok = !z) := by have := HOKF.out; simpa [Hid] using this
          go_enter Tryz.func75, Tryz.ntmps75
          go_wp2_with fail
          refine (hC.out _).mono ?_
          rintro e _ ⟨rfl, rfl⟩
          go_wp2_with fail
          refine (Calls.toExt (hC2.out _)).mono ?_
          rintro e _ ⟨rfl, x, rfl⟩
          have hz : w.heap.size < x.1.heap.size := by have := x.2.size; simp at this; omega
          have hz' : w.heap.size < x.1.heap.size + 1 := by omega
          go_wp2_with fail
          refine (Calls.toExt (HDA.out _)).mono ?_
          rintro e _ ⟨rfl, y0, rfl⟩
          have hzy0 : x.1.heap.size < y0.1.heap.size := by have := y0.2.size; (try simp at this); omega
          have hzy0' : w.heap.size < y0.1.heap.size := by omega
          go_wp2_with fail
          refine (Calls.toExt (HDF.out _)).mono ?_
          rintro e _ ⟨rfl, y1, rfl⟩
          have hzy1 : x.1.heap.size < y1.1.heap.size := by have := y1.2.size; (try simp at this); omega
          have hzy1' : w.heap.size < y1.1.heap.size := by omega
          go_wp2_with fail
          have d0 : y1.1.cell? ⟨w.heap.size, 0, none⟩ = some (.bool false) := by simp [go_sem, hz, hz', hzy0']
          have d1 : y1.1.cell? ⟨w.heap.size, 1, none⟩ = some (.string ⟨#[]⟩) := by simp [go_sem, hz, hz', hzy0']
          have d2 : y1.1.cell? ⟨w.heap.size, 2, none⟩ = some (.string ⟨#[]⟩) := by simp [go_sem, hz, hz', hzy0']
          have q0 : y1.1.cell? ⟨x.1.heap.size, 0, none⟩ = some (.bool true) := by simp [go_sem, hzy0]
          have q1 : y1.1.cell? ⟨x.1.heap.size, 1, none⟩ = some (.string a) := by simp [go_sem, hzy0]
          have q2 : y1.1.cell? ⟨x.1.heap.size, 2, none⟩ = some (.string f) := by simp [go_sem, hzy0]
          have g0 : y1.1.frozen? ⟨w.heap.size, 0, none⟩ = false := by simp [go_sem, hz, hz', hzy0']
          have g1 : y1.1.frozen? ⟨w.heap.size, 1, none⟩ = false := by simp [go_sem, hz, hz', hzy0']
          have g2 : y1.1.frozen? ⟨w.heap.size, 2, none⟩ = false := by simp [go_sem, hz, hz', hzy0']
          have hne : x.1.heap.size ≠ w.heap.size := by omega
          have hqlt : x.1.heap.size < y1.1.heap.size := hzy1
          go_region_held3 (fun w' => w'.cell? ⟨x.1.heap.size, 0, none⟩ = some (.bool true) ∧ w'.cell? ⟨x.1.heap.size, 1, none⟩ = some (.string a) ∧ w'.cell? ⟨x.1.heap.size, 2, none⟩ = some (.string f))
            ((go_split_ands; (first | exact ⟨q0, q1, q2⟩ | exact ⟨rq0, rq1, rq2⟩ | (simp [World.cell?_setCell_other]; (refine ⟨?_, ?_, ?_⟩ <;> assumption)))))
            ((go_at_call 92; refine (Calls.toExt (HZ.out _)).mono ?_; rintro e _ ⟨rfl, y2, rfl⟩; have hzy2 : x.1.heap.size < y2.1.heap.size := (by (have := y2.2.size; (try simp at this); omega)); have hzy2' : w.heap.size < y2.1.heap.size := (by omega); have rd0 := (y2.2.cell (p := ⟨w.heap.size, 0, none⟩) (by simpa using hzy1')).trans d0; have rd1 := (y2.2.cell (p := ⟨w.heap.size, 1, none⟩) (by simpa using hzy1')).trans d1; have rd2 := (y2.2.cell (p := ⟨w.heap.size, 2, none⟩) (by simpa using hzy1')).trans d2; have rq0 := (y2.2.cell (p := ⟨x.1.heap.size, 0, none⟩) (by simpa using hzy1)).trans q0; have rq1 := (y2.2.cell (p := ⟨x.1.heap.size, 1, none⟩) (by simpa using hzy1)).trans q1; have rq2 := (y2.2.cell (p := ⟨x.1.heap.size, 2, none⟩) (by simpa using hzy1)).trans q2; have rg0 := (y2.2.frozen (p := ⟨w.heap.size, 0, none⟩) (by simpa using hzy1')).trans g0; have rg1 := (y2.2.frozen (p := ⟨w.heap.size, 1, none⟩) (by simpa using hzy1')).trans g1; have rg2 := (y2.2.frozen (p := ⟨w.heap.size, 2, none⟩) (by simpa using hzy1')).trans g2))
          all_goals
            go_split_ands
            go_wp2_with fail
            refine bodyPost_ret (v := .tuple #[.agg #[.bool true, .string a, .string f], .bool (!z)]) (by simp [results, Tryz.results75, go_sem, rd0, rd1, rd2]) rfl ⟨by rw [HOK.out], ?_⟩
            (show Bel w _; (repeat (first | exact Bel.refl _ | refine Bel.ext ?_ _ | refine Bel.alloc ?_ _ | refine Bel.drewN ?_ _ | refine Bel.drew ?_ | refine Bel.setCell ?_ _ _ ?_ | exact Nat.le_refl _ | (simp; done) | omega)))

    | false =>
      by_cases hf6 : 6 < f.size
      · have HOK : Hid (ok = false) := by have := HOKW.out; rw [okF_long hf6] at this; simpa [Hid] using this
        go_enter Tryz.func75, Tryz.ntmps75
        go_wp2_with fail
        refine (hC.out _).mono ?_
        rintro e _ ⟨rfl, rfl⟩
        go_wp2_with fail
        refine (Calls.toExt (hC2.out _)).mono ?_
        rintro e _ ⟨rfl, x, rfl⟩
        have hz : w.heap.size < x.1.heap.size := by have := x.2.size; simp at this; omega
        have hz' : w.heap.size < x.1.heap.size + 1 := by omega
        go_wp2_with fail
        refine (Calls.toExt (HDA.out _)).mono ?_
        rintro e _ ⟨rfl, y0, rfl⟩
        have hzy0 : x.1.heap.size < y0.1.heap.size := by have := y0.2.size; (try simp at this); omega
        have hzy0' : w.heap.size < y0.1.heap.size := by omega
        go_wp2_with fail
        refine bodyPost_ret (v := .tuple #[.agg #[.bool n, .string a, .string f], .bool false]) (by simp [results, Tryz.results75, go_sem, hz, hz']) rfl ⟨by rw [HOK.out], ?_⟩
        (show Bel w _; (repeat (first | exact Bel.refl _ | refine Bel.ext ?_ _ | refine Bel.alloc ?_ _ | refine Bel.drewN ?_ _ | refine Bel.drew ?_ | refine Bel.setCell ?_ _ _ ?_ | exact Nat.le_refl _ | (simp; done) | omega)))

      cases hdf : allD f.data.toList with
      | false =>
        have HOK : Hid (ok = false) := by have := HOKW.out; rw [okF_digits hdf] at this; simpa [Hid] using this
        rw [hdf] at HDF
        clear hdf
        go_enter Tryz.func75, Tryz.ntmps75
        go_wp2_with fail
        refine (hC.out _).mono ?_
        rintro e _ ⟨rfl, rfl⟩
        go_wp2_with fail
        refine (Calls.toExt (hC2.out _)).mono ?_
        rintro e _ ⟨rfl, x, rfl⟩
        have hz : w.heap.size < x.1.heap.size := by have := x.2.size; simp at this; omega
        have hz' : w.heap.size < x.1.heap.size + 1 := by omega
        go_wp2_with fail
        refine (Calls.toExt (HDA.out _)).mono ?_
        rintro e _ ⟨rfl, y0, rfl⟩
        have hzy0 : x.1.heap.size < y0.1.heap.size := by have := y0.2.size; (try simp at this); omega
        have hzy0' : w.heap.size < y0.1.heap.size := by omega
        go_wp2_with fail
        refine (Calls.toExt (HDF.out _)).mono ?_
        rintro e _ ⟨rfl, y1, rfl⟩
        have hzy1 : x.1.heap.size < y1.1.heap.size := by have := y1.2.size; (try simp at this); omega
        have hzy1' : w.heap.size < y1.1.heap.size := by omega
        go_wp2_with fail
        refine bodyPost_ret (v := .tuple #[.agg #[.bool n, .string a, .string f], .bool false]) (by simp [results, Tryz.results75, go_sem, hz, hz', hzy0']) rfl ⟨by rw [HOK.out], ?_⟩
        (show Bel w _; (repeat (first | exact Bel.refl _ | refine Bel.ext ?_ _ | refine Bel.alloc ?_ _ | refine Bel.drewN ?_ _ | refine Bel.drew ?_ | refine Bel.setCell ?_ _ _ ?_ | exact Nat.le_refl _ | (simp; done) | omega)))

      | true =>
        have HOKF : Hid (ok = !(n && z)) := by have := HOKW.out; rw [okF_false hf6 hdf, Bool.true_and] at this; exact this
        rw [hdf] at HDF
        clear hdf
        cases n with
        | false =>
          have HOK : Hid (ok = true) := by have := HOKF.out; simpa [Hid] using this
          go_enter Tryz.func75, Tryz.ntmps75
          go_wp2_with fail
          refine (hC.out _).mono ?_
          rintro e _ ⟨rfl, rfl⟩
          go_wp2_with fail
          refine (Calls.toExt (hC2.out _)).mono ?_
          rintro e _ ⟨rfl, x, rfl⟩
          have hz : w.heap.size < x.1.heap.size := by have := x.2.size; simp at this; omega
          have hz' : w.heap.size < x.1.heap.size + 1 := by omega
          go_wp2_with fail
          refine (Calls.toExt (HDA.out _)).mono ?_
          rintro e _ ⟨rfl, y0, rfl⟩
          have hzy0 : x.1.heap.size < y0.1.heap.size := by have := y0.2.size; (try simp at this); omega
          have hzy0' : w.heap.size < y0.1.heap.size := by omega
          go_wp2_with fail
          refine (Calls.toExt (HDF.out _)).mono ?_
          rintro e _ ⟨rfl, y1, rfl⟩
          have hzy1 : x.1.heap.size < y1.1.heap.size := by have := y1.2.size; (try simp at this); omega
          have hzy1' : w.heap.size < y1.1.heap.size := by omega
          go_wp2_with fail
          go_region_with (fail)
          all_goals
            go_wp2_with fail
            refine bodyPost_ret (v := .tuple #[.agg #[.bool false, .string a, .string f], .bool true]) (by simp [results, Tryz.results75, go_sem, hz, hz', hzy0']) rfl ⟨by rw [HOK.out], ?_⟩
            (show Bel w _; (repeat (first | exact Bel.refl _ | refine Bel.ext ?_ _ | refine Bel.alloc ?_ _ | refine Bel.drewN ?_ _ | refine Bel.drew ?_ | refine Bel.setCell ?_ _ _ ?_ | exact Nat.le_refl _ | (simp; done) | omega)))

        | true =>
          have HOK : Hid (ok = !z) := by have := HOKF.out; simpa [Hid] using this
          go_enter Tryz.func75, Tryz.ntmps75
          go_wp2_with fail
          refine (hC.out _).mono ?_
          rintro e _ ⟨rfl, rfl⟩
          go_wp2_with fail
          refine (Calls.toExt (hC2.out _)).mono ?_
          rintro e _ ⟨rfl, x, rfl⟩
          have hz : w.heap.size < x.1.heap.size := by have := x.2.size; simp at this; omega
          have hz' : w.heap.size < x.1.heap.size + 1 := by omega
          go_wp2_with fail
          refine (Calls.toExt (HDA.out _)).mono ?_
          rintro e _ ⟨rfl, y0, rfl⟩
          have hzy0 : x.1.heap.size < y0.1.heap.size := by have := y0.2.size; (try simp at this); omega
          have hzy0' : w.heap.size < y0.1.heap.size := by omega
          go_wp2_with fail
          refine (Calls.toExt (HDF.out _)).mono ?_
          rintro e _ ⟨rfl, y1, rfl⟩
          have hzy1 : x.1.heap.size < y1.1.heap.size := by have := y1.2.size; (try simp at this); omega
          have hzy1' : w.heap.size < y1.1.heap.size := by omega
          go_wp2_with fail
          have d0 : y1.1.cell? ⟨w.heap.size, 0, none⟩ = some (.bool false) := by simp [go_sem, hz, hz', hzy0']
          have d1 : y1.1.cell? ⟨w.heap.size, 1, none⟩ = some (.string ⟨#[]⟩) := by simp [go_sem, hz, hz', hzy0']
          have d2 : y1.1.cell? ⟨w.heap.size, 2, none⟩ = some (.string ⟨#[]⟩) := by simp [go_sem, hz, hz', hzy0']
          have q0 : y1.1.cell? ⟨x.1.heap.size, 0, none⟩ = some (.bool true) := by simp [go_sem, hzy0]
          have q1 : y1.1.cell? ⟨x.1.heap.size, 1, none⟩ = some (.string a) := by simp [go_sem, hzy0]
          have q2 : y1.1.cell? ⟨x.1.heap.size, 2, none⟩ = some (.string f) := by simp [go_sem, hzy0]
          have g0 : y1.1.frozen? ⟨w.heap.size, 0, none⟩ = false := by simp [go_sem, hz, hz', hzy0']
          have g1 : y1.1.frozen? ⟨w.heap.size, 1, none⟩ = false := by simp [go_sem, hz, hz', hzy0']
          have g2 : y1.1.frozen? ⟨w.heap.size, 2, none⟩ = false := by simp [go_sem, hz, hz', hzy0']
          have hne : x.1.heap.size ≠ w.heap.size := by omega
          have hqlt : x.1.heap.size < y1.1.heap.size := hzy1
          go_region_held3 (fun w' => w'.cell? ⟨x.1.heap.size, 0, none⟩ = some (.bool true) ∧ w'.cell? ⟨x.1.heap.size, 1, none⟩ = some (.string a) ∧ w'.cell? ⟨x.1.heap.size, 2, none⟩ = some (.string f))
            ((go_split_ands; (first | exact ⟨q0, q1, q2⟩ | exact ⟨rq0, rq1, rq2⟩ | (simp [World.cell?_setCell_other]; (refine ⟨?_, ?_, ?_⟩ <;> assumption)))))
            ((go_at_call 92; refine (Calls.toExt (HZ.out _)).mono ?_; rintro e _ ⟨rfl, y2, rfl⟩; have hzy2 : x.1.heap.size < y2.1.heap.size := (by (have := y2.2.size; (try simp at this); omega)); have hzy2' : w.heap.size < y2.1.heap.size := (by omega); have rd0 := (y2.2.cell (p := ⟨w.heap.size, 0, none⟩) (by simpa using hzy1')).trans d0; have rd1 := (y2.2.cell (p := ⟨w.heap.size, 1, none⟩) (by simpa using hzy1')).trans d1; have rd2 := (y2.2.cell (p := ⟨w.heap.size, 2, none⟩) (by simpa using hzy1')).trans d2; have rq0 := (y2.2.cell (p := ⟨x.1.heap.size, 0, none⟩) (by simpa using hzy1)).trans q0; have rq1 := (y2.2.cell (p := ⟨x.1.heap.size, 1, none⟩) (by simpa using hzy1)).trans q1; have rq2 := (y2.2.cell (p := ⟨x.1.heap.size, 2, none⟩) (by simpa using hzy1)).trans q2; have rg0 := (y2.2.frozen (p := ⟨w.heap.size, 0, none⟩) (by simpa using hzy1')).trans g0; have rg1 := (y2.2.frozen (p := ⟨w.heap.size, 1, none⟩) (by simpa using hzy1')).trans g1; have rg2 := (y2.2.frozen (p := ⟨w.heap.size, 2, none⟩) (by simpa using hzy1')).trans g2))
          all_goals
            go_split_ands
            go_wp2_with fail
            refine bodyPost_ret (v := .tuple #[.agg #[.bool true, .string a, .string f], .bool (!z)]) (by simp [results, Tryz.results75, go_sem, rd0, rd1, rd2]) rfl ⟨by rw [HOK.out], ?_⟩
            (show Bel w _; (repeat (first | exact Bel.refl _ | refine Bel.ext ?_ _ | refine Bel.alloc ?_ _ | refine Bel.drewN ?_ _ | refine Bel.drew ?_ | refine Bel.setCell ?_ _ _ ?_ | exact Nat.le_refl _ | (simp; done) | omega)))

end Go.Proofs.YtadhblppeaamlaaGreatDoor
