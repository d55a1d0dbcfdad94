/- Walks over rules in the program: the class of a number. -/
import Derived.Test.YtadhblppeaamlaaGreatDoorSI
import Derived.Test.YtadhblppeaamlaaGreatDoorSG
namespace Go.Proofs.YtadhblppeaamlaaGreatDoor
open Go.RowKit
attribute [local go_sem] Ext.cell Ext.frozen
attribute [local go_sem ↓] Go.wp_at_zero Go.wp_at_succ

/-- a slice of one element of k cells -/
theorem rows_one {α : Type} {k : Nat} {C : World → (Nat → Value) → α → Prop} {w : World} {B : Nat} {g : Nat → Value} {a : α} (hg : ∀ j, j < k → w.cell? ⟨B, j, none⟩ = some (g j)) (hC : C w g a) : RowsOf k C w (.slice (some ⟨B, 0, none⟩) 1 1) [a] :=
  ⟨some ⟨B, 0, none⟩, 1, fun _ => g, B, 0, rfl, ⟨Nat.le_of_ble_eq_true rfl, fun _ => rfl, fun i j hi hj => by
    obtain rfl : i = 0 := by simp at hi; omega
    rw [Nat.zero_mul, Nat.zero_add]
    exact hg j hj⟩, (fun h => by cases h), Nat.le_refl _, Nat.le_of_ble_eq_true rfl, fun i x hx => by
    cases i with
    | zero => cases hx; exact hC
    | succ i => cases hx⟩
def always : List (List Rel) := [[⟨2, 0, true, [(0, 0)]⟩]]
theorem always_len : always.length ≤ 30 := by decide
theorem always_ok : validC always = true := by decide
theorem always_cond (w : World) (e1 e2 e3 : TypeId) : CondAt (((w.alloc (.cells #[.int .i64 0, .int .i64 0] e1)).alloc (.cells #[.int .i64 2, .int .i64 0, .bool true, .slice (some ⟨w.heap.size, 0, none⟩) 1 1] e2)).alloc (.cells #[.slice (some ⟨w.heap.size + 1, 0, none⟩) 1 1] e3)) (.slice (some ⟨w.heap.size + 2, 0, none⟩) 1 1) always := by
  refine rows_one (g := fun _ => .slice (some ⟨w.heap.size + 1, 0, none⟩) 1 1) (fun j hj => ?_) ?_
  · obtain rfl : j = 0 := by omega
    simp [go_sem]
  · refine rows_one (g := fun j => (#[.int .i64 2, .int .i64 0, .bool true, .slice (some ⟨w.heap.size, 0, none⟩) 1 1] : Array Value).getD j undef) (fun j hj => ?_) ⟨rfl, rfl, rfl, ?_⟩
    · rcases (by omega : j = 0 ∨ j = 1 ∨ j = 2 ∨ j = 3) with h | h | h | h <;> subst h <;> simp [go_sem]
    · refine rows_one (g := fun _ => .int .i64 0) (fun j hj => ?_) ⟨rfl, rfl⟩
      rcases (by omega : j = 0 ∨ j = 1) with h | h <;> subst h <;> simp [go_sem]
theorem holdsV_ok {s : List UInt8} {c : List (List Rel)} (h1 : validC c = true) (h2 : dOk s = true) : holdsV s c = (holdsC s c, 0) := by unfold holdsV; rw [h1, h2]; rfl
theorem holdsV_no2 {s : List UInt8} {c : List (List Rel)} (h2 : dOk s = false) : holdsV s c = (false, 1) := by unfold holdsV; rw [h2, Bool.and_false]; rfl
set_option maxRecDepth 20000 in
set_option maxHeartbeats 4000000 in
theorem pclass_any (v : Value) (rs : List (ByteArray × List (List Rel))) (s : ByteArray) (w : World) (h : RulesAt w v rs) (hl : ∀ r ∈ rs, r.2.length ≤ 30) (hs : s.size ≤ 1000) :
    Calls Tryz.prog 39 #[v, .string s] w fun e w' => e = .returned (.tuple #[.string (classV rs s.data.toList).1, .int .i64 ((classV rs s.data.toList).2 : Nat)]) ∧ Below w.heap.size w w' := by
  have HV : Hid (∀ W, Below w.heap.size w W → Calls Tryz.prog 25 #[v] W fun e w' => e = .returned (.bool (validR rs)) ∧ Below W.heap.size W w') := fun W hb => pvalid_any v rs W (h.below hb) hl
  have HA : Hid (∀ W2 v2, CondAt W2 v2 always → Calls Tryz.prog 64 #[v2, .string s] W2 fun e w' => e = .returned (.tuple #[.bool (holdsV s.data.toList always).1, .int .i64 ((holdsV s.data.toList always).2 : Nat)]) ∧ Below W2.heap.size W2 w') := fun W2 v2 hc => cholds_any v2 always s W2 hc always_len hs
  cases hv : validR rs with
  | false =>
    have HO : Hid (classV rs s.data.toList = (.empty, 1)) := classV_no hv
    rw [Hid, hv] at HV
    replace HV := Lib.hid HV
    generalize classV rs s.data.toList = q at *
    clear h HA
    go_enter Tryz.func39, Tryz.ntmps39
    go_wp2_with fail
    refine (Calls.toExt (HV.out _ (Below.refl _ _))).mono ?_
    rintro e _ ⟨rfl, x1, rfl⟩
    go_wp2_with fail
    go_ret2
    exact ⟨by rw [HO.out]; rfl, by show Bel w _; repeat (first | exact Bel.refl _ | refine Bel.drew ?_ | refine Bel.drewN ?_ _ | refine Bel.alloc ?_ _ | refine Bel.ext ?_ _)⟩
  | true =>
    have hvc := validR_all hv
    rw [Hid, hv] at HV
    replace HV := Lib.hid HV
    cases hd : dOk s.data.toList with
    | false =>
      have HO : Hid (classV rs s.data.toList = (.empty, 1)) := classV_no2 hd
      rw [Hid, holdsV_no2 hd] at HA
      replace HA := Lib.hid HA
      generalize classV rs s.data.toList = q at *
      clear h hvc
      go_enter Tryz.func39, Tryz.ntmps39
      go_wp2_with fail
      refine (Calls.toExt (HV.out _ (Below.refl _ _))).mono ?_
      rintro e _ ⟨rfl, x1, rfl⟩
      go_wp2_with fail
      refine (Calls.toExt (HA.out _ _ (always_cond _ _ _ _))).mono ?_
      rintro e _ ⟨rfl, x2, rfl⟩
      go_wp2_with fail
      go_ret2
      exact ⟨by rw [HO.out]; rfl, by show Bel w _; repeat (first | exact Bel.refl _ | refine Bel.drew ?_ | refine Bel.drewN ?_ _ | refine Bel.alloc ?_ _ | refine Bel.ext ?_ _)⟩
    | true =>
      have HO : Hid (classV rs s.data.toList = (classOf rs s.data.toList, 0)) := classV_yes hv hd
      rw [Hid, holdsV_ok always_ok hd] at HA
      replace HA := Lib.hid HA
      rw [HO.out]
      simp only
      obtain ⟨ad, c, f, b, off, rfl, hr, _, _, _, hf⟩ := h
      obtain ⟨n, hn⟩ : ∃ n, rs.length = n := ⟨_, rfl⟩
      rw [hn] at hr HV ⊢
      have hnm := hr.max
      have HN := Lib.hid hn
      have HR := Lib.hid hr
      have HF := Lib.hid hf
      have HL := Lib.hid hl
      have HVC := Lib.hid hvc
      have HD := Lib.hid hd
      clear hr hf hn hl hvc hd hv
      obtain ⟨q, hq⟩ : ∃ q, classOf rs s.data.toList = q := ⟨_, rfl⟩
      rw [hq]
      have HQ := Lib.hid hq
      clear hq HO
      generalize holdsC s.data.toList always = qa at *
      go_enter Tryz.func39, Tryz.ntmps39
      go_wp2_with fail
      refine (Calls.toExt (HV.out _ (Below.refl _ _))).mono ?_
      rintro e _ ⟨rfl, x1, rfl⟩
      go_wp2_with fail
      refine (Calls.toExt (HA.out _ _ (always_cond _ _ _ _))).mono ?_
      rintro e _ ⟨rfl, x2, rfl⟩
      go_wp2_with fail
      have HBX : Hid (Below w.heap.size w x2.1) := by show Bel w _; repeat (first | exact Bel.refl _ | refine Bel.drew ?_ | refine Bel.drewN ?_ _ | refine Bel.alloc ?_ _ | refine Bel.ext ?_ _)
      go_loopw [31] (fun v wr => ∃ k : Nat, v = .int .i64 (k : Int) ∧ k ≤ n ∧ (∀ i, i < k → holdsC s.data.toList (rs.getD i (.empty, [])).2 = false) ∧ Below w.heap.size w wr) (fun v _ => n - (intOf v).toNat)
      case atStart => exact ⟨0, rfl, Nat.zero_le _, fun i hi => absurd hi (Nat.not_lt_zero _), HBX.out⟩
      case round =>
        obtain ⟨k, rfl, hkn, hal, hbl⟩ := hrel
        have HAL := Lib.hid hal
        have HBL := Lib.hid hbl
        have hzr := hbl.size
        clear hal hbl
        by_cases hlt : k < n
        · have hrr := HR.out.below HBL.out
          have hix := fun W => hrr.ix 22 80 Tryz.underlying22 (by kernel_rfl) (by omega) hlt c W
          have c0 : wr.cell? ⟨b, off + k * 2, none⟩ = some (f k 0) := hrr.cell k 0 hlt (by omega)
          have c1 : wr.cell? ⟨b, off + k * 2 + 1, none⟩ = some (f k 1) := hrr.cell k 1 hlt (by omega)
          have hk0 : k < rs.length := by rw [HN.out]; exact hlt
          obtain ⟨f0, f1⟩ := RowsOf.get HF.out hk0 (.empty, [])
          rw [f0] at c0
          have hm := getD_mem rs k (.empty, []) hk0
          have HC : Hid (∀ W, Below wr.heap.size wr W → Calls Tryz.prog 64 #[f k 1, .string s] W fun e w' => e = .returned (.tuple #[.bool (holdsC s.data.toList (rs.getD k (.empty, [])).2), .int .i64 0]) ∧ Below W.heap.size W w') := fun W hb => by
            have := cholds_any (f k 1) _ s W ((f1.below HBL.out).below hb) (HL.out _ hm) hs
            rw [holdsV_ok (HVC.out _ hm) HD.out] at this
            exact this
          obtain ⟨ad3, c3, _, _, _, hv3, _, _, _, _, _⟩ := id f1
          rw [hv3] at c1
          rw [Hid, hv3] at HC
          replace HC := Lib.hid HC
          have HHIT : Hid (holdsC s.data.toList (rs.getD k (.empty, [])).2 = true → q = (rs.getD k (.empty, [])).1) := fun h => HQ.out.symm.trans (classOf_hit hk0 h HAL.out)
          have HMISS : Hid (holdsC s.data.toList (rs.getD k (.empty, [])).2 = false → ∀ i, i < k + 1 → holdsC s.data.toList (rs.getD i (.empty, [])).2 = false) := fun h i hi => by
            by_cases e : i = k
            · subst e; exact h
            · exact HAL.out i (by omega)
          clear hrr f0 f1 hv3 hm hk0
          generalize (rs.getD k (.empty, [])).2.length = m3 at *
          generalize rs.getD k (.empty, []) = r at *
          obtain ⟨cl, cd⟩ := r
          simp only at c0 HC HHIT HMISS
          cases hh : holdsC s.data.toList cd with
          | true =>
            have HO := Lib.hid (HHIT.out hh)
            rw [Hid, hh] at HC
            replace HC := Lib.hid HC
            clear hh HHIT HMISS
            go_wp2_with fail
            refine (Calls.toExt (HC.out _ ?_)).mono ?_
            · show Bel wr _; exact (Bel.refl _).alloc _
            rintro e _ ⟨rfl, x1, rfl⟩
            have hx1 : wr.heap.size < x1.1.heap.size := by have := x1.2.size; simp at this; omega
            go_wp2_with fail
            go_ret2
            exact ⟨by rw [HO.out]; rfl, by show Bel w _; repeat (first | exact Bel.refl _ | exact HBL.out | refine Bel.drew ?_ | refine Bel.drewN ?_ _ | refine Bel.alloc ?_ _ | refine Bel.ext ?_ _)⟩
          | false =>
            have HO := Lib.hid (HMISS.out hh)
            rw [Hid, hh] at HC
            replace HC := Lib.hid HC
            clear hh HHIT HMISS
            go_wp2_with fail
            refine (Calls.toExt (HC.out _ ?_)).mono ?_
            · show Bel wr _; exact (Bel.refl _).alloc _
            rintro e _ ⟨rfl, x1, rfl⟩
            have hx1 : wr.heap.size < x1.1.heap.size := by have := x1.2.size; simp at this; omega
            go_wp2_with fail
            go_roundw
            case rel => exact ⟨k + 1, by go_num, by omega, HO.out, by show Bel w _; repeat (first | exact Bel.refl _ | exact HBL.out | refine Bel.drew ?_ | refine Bel.drewN ?_ _ | refine Bel.alloc ?_ _ | refine Bel.ext ?_ _)⟩
            case measure => simp [intOf]; omega
        · obtain rfl : k = n := by omega
          have HO : Hid (q = otherB) := HQ.out.symm.trans (classOf_miss (by rw [HN.out]; exact HAL.out))
          go_wp2_with fail
          go_ret2
          exact ⟨by rw [HO.out]; rfl, HBL.out⟩
end Go.Proofs.YtadhblppeaamlaaGreatDoor
