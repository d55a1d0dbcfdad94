/- Walks: digits with 1 added, by the reference. -/
import Derived.Test.YtnnidhjmakpaeaaDoorW5
import Derived.Test.YtnnidhjmakpaeaaDoorP3
import Derived.Laws.IdiomStrings
namespace Go.Proofs.YtnnidhjmakpaeaaDoor
open Go.RowKit
attribute [local go_sem] Ext.cell Ext.frozen
attribute [local go_sem ↓] Go.wp_at_zero Go.wp_at_succ

set_option maxRecDepth 20000 in
set_option maxHeartbeats 8000000 in
theorem rincreased_any (k : Nat) : ∀ (s : ByteArray) (w : World), s.size = k → k ≤ 1000 →
    Calls Tryd.prog 38 #[.string s] w fun e w' => e = .returned (.string (bs (incD s.data.toList))) ∧ Below w.heap.size w w' := by
  induction k with
  | zero =>
    intro s w hs _
    obtain rfl : s = ⟨#[]⟩ := ba_eq (by rw [← List.length_eq_zero_iff, size_len] at *; exact hs)
    have HO : Hid (bs (incD (ByteArray.mk #[]).data.toList) = ⟨#[49]⟩) := rfl
    go_enter Tryd.func38, Tryd.ntmps38
    go_wp2_with fail
    go_ret
    exact ⟨ret_string HO.out.symm, Bel.refl w⟩
  | succ k ih =>
    intro s w hs hk
    have h0 : 0 < s.size := by omega
    have hl : s.data.toList = s.data.toList.take k ++ [s[k]] := by have := last_at s h0; simpa only [hs, Nat.add_sub_cancel] using this
    have hne : s.toList.isEmpty = false := by
      rw [ByteArray.toList_eq, hl]; simp
    by_cases h57 : s[k].toNat = 57
    · have hc : s[k] = 57 := UInt8.toNat_inj.1 h57
      have HI : Hid (∀ w, Calls Tryd.prog 38 #[.string (s.extract 0 k)] w fun e w' => e = .returned (.string (bs (incD (s.data.toList.take k)))) ∧ Below w.heap.size w w') := fun w => by
        have h := ih (s.extract 0 k) w (by rw [ByteArray.size_extract]; omega) (by omega)
        rw [ext_data, List.drop_zero] at h
        exact h
      have HO : Hid (incD s.data.toList = incD (s.data.toList.take k) ++ [48]) := by
        unfold Hid
        have := incD_nine (s.data.toList.take k)
        rw [← hc, ← hl] at this
        exact this
      have hil := incD_len (s.data.toList.take k)
      rw [List.length_take, size_len] at hil
      have hsz : (bs (incD (s.data.toList.take k))).size ≤ 1001 := by rw [bs_size]; omega
      have HR : Hid (bs (incD s.data.toList) = bs (incD (s.data.toList.take k)) ++ ⟨#[48]⟩) := by
        unfold Hid
        rw [HO.out, ← bs_append]; rfl
      have h2 : ((s[k].toNat : Int) == 57) = true := by simp; omega
      clear hl hc ih hil h57 HO
      generalize bs (incD (s.data.toList.take k)) = r at *
      go_enter Tryd.func38, Tryd.ntmps38
      go_wp2_with fail
      refine (Calls.toExt (HI.out _)).mono ?_
      rintro e _ ⟨rfl, x, rfl⟩
      go_wp2_with fail
      go_ret
      exact ⟨ret_string HR.out.symm, by (show Bel w _; (repeat (first | exact Bel.refl _ | refine Bel.ext ?_ _ | refine Bel.alloc ?_ _ | refine Bel.drewN ?_ _ | refine Bel.drew ?_ | refine Bel.setCell ?_ _ _ ?_ | exact Nat.le_refl _ | (simp; done) | omega | (simp <;> omega))))⟩
    · have hc : s[k] ≠ 57 := fun e => h57 (by rw [e]; rfl)
      have HR : Hid (bs (incD s.data.toList) = s.extract 0 k ++ ⟨#[s[k] + 1]⟩) := by
        have h := incD_less (s.data.toList.take k) hc
        rw [← hl] at h
        unfold Hid
        rw [h, ← bs_append]
        congr 1
        apply ba_eq
        rw [ext_data]; rfl
      have h2 : ((s[k].toNat : Int) == 57) = false := by simp; omega
      have g1 : IntKind.u8.wrap ((s[k].toNat : Int) + 1) = ((s[k] + 1).toNat : Int) := by
        rw [UInt8.toNat_add, show (1 : UInt8).toNat = 1 from rfl]
        simp [IntKind.wrap, IntKind.bits, IntKind.signed]
      have g2 : (0 : Int) ≤ (k : Int) := by omega
      have g3 : (k : Int) ≤ (k : Int) + 1 := by omega
      have g4 : ((k : Int) + 1) - 1 = (k : Int) := by omega
      have g5 : IntKind.i64.wrap (k : Int) = (k : Int) := by rw [IntKind.wrap_i64]; omega
      have hcv : Sem.run Tryd.prog (convert 71 9 (Value.slice (some ⟨w.heap.size, 0, none⟩) 1 1)) (w.alloc (Obj.cells #[Value.int .u8 (((s[k].toNat : Int) + 1) % 256)] 5)).drew
          = .ok (.string ⟨#[s[k] + 1]⟩) (w.alloc (Obj.cells #[Value.int .u8 (((s[k].toNat : Int) + 1) % 256)] 5)).drew := by
        have h := run_convert_bytes_back (P := Tryd.prog) (w.alloc (Obj.cells #[Value.int .u8 (((s[k].toNat : Int) + 1) % 256)] 5)).drew 71 9 5 ⟨w.heap.size, 0, none⟩ 1 [s[k] + 1] rfl rfl rfl (fun j hj => by
          obtain rfl : j = 0 := by simpa using hj
          show _ = some (Value.int .u8 ((s[k] + 1).toNat : Int))
          rw [UInt8.toNat_add]
          simp [go_sem, Addr.add])
        exact h
      clear hl hc ih h57
      go_enter Tryd.func38, Tryd.ntmps38
      go_wp2_with fail
      go_region_with fail
      all_goals
        go_wp2_with fail
        go_ret
        exact ⟨ret_string HR.out.symm, by (show Bel w _; (repeat (first | exact Bel.refl _ | refine Bel.ext ?_ _ | refine Bel.alloc ?_ _ | refine Bel.drewN ?_ _ | refine Bel.drew ?_ | refine Bel.setCell ?_ _ _ ?_ | exact Nat.le_refl _ | (simp; done) | omega | (simp <;> omega))))⟩
end Go.Proofs.YtnnidhjmakpaeaaDoor
