/- Walks: texts of numbers; value; the parts of a number by the program. -/
import Derived.Test.YtadhblppeaamlaaGreatDoorW3
namespace Go.Proofs.YtadhblppeaamlaaGreatDoor
open Go.RowKit
attribute [local go_sem] Ext.cell Ext.frozen

theorem text_eq (n : Bool) (w f : ByteArray) : ((if n && !(allZ w.data.toList && allZ f.data.toList) then (⟨#[45]⟩ : ByteArray) else ⟨#[]⟩) ++ (w ++ (if f.data.toList.isEmpty then (⟨#[]⟩ : ByteArray) else ⟨#[46]⟩ ++ f))) = bs (textD n w.data.toList f.data.toList) := by
  apply ba_eq
  rw [app_data, app_data, bs_data]
  unfold textD
  rw [List.append_assoc]
  congr 1
  · split <;> rfl
  · congr 1
    split
    · rfl
    · rw [app_data]; rfl

set_option maxHeartbeats 400000 in
theorem value_any (s : ByteArray) (w : World) (hs : s.size ≤ 17) (hd : allD s.data.toList = true) :
    Calls Tryz.prog 104 #[.string s] w fun e w' => e = .returned (.int .i64 (valD s.data.toList : Nat)) ∧ Below w.heap.size w w' := by
  have HA : Hid (∀ w, Calls Tryz.prog 119 #[.string (⟨#[48]⟩ ++ s)] w fun e w' => e = .returned (.tuple #[.int .i64 (valD s.data.toList : Nat), .nilIface]) ∧ Below w.heap.size w w') := fun w => by
    have hsz : (⟨#[48]⟩ ++ s : ByteArray).size ≤ 18 := by
      rw [ByteArray.size_append]
      have : (⟨#[48]⟩ : ByteArray).size = 1 := rfl
      omega
    have hat : Lib.atoi (⟨#[48]⟩ ++ s : ByteArray).data.toList = some (valD s.data.toList : Int) := by
      rw [app_data]
      exact atoi_val _ hd
    refine (Tryz.strconv_Atoi _ _ hsz hat w).mono fun e w' ⟨he, t, hw⟩ => ⟨he, ?_⟩
    rw [hw]
    exact bytes_below w _ t
  generalize valD s.data.toList = v at *
  clear hd
  go_enter Tryz.func104, Tryz.ntmps104
  go_wp2_with fail
  refine (Calls.toExt (HA.out _)).mono ?_
  rintro e _ ⟨rfl, x1, rfl⟩
  go_wp2_with fail
  go_ret
  exact ⟨rfl, (Bel.refl w).ext _⟩

end Go.Proofs.YtadhblppeaamlaaGreatDoor
