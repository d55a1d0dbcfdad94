/- Plain: when the parts of a number are proper. -/
import Derived.Test.YtadhblppeaamlaaGreatDoorP1
namespace Go.Proofs.YtadhblppeaamlaaGreatDoor
theorem okW_short {a : ByteArray} (h : a.size < 1) : okW a.data.toList = false := by
  unfold okW; rw [size_len]; simp; omega
theorem okW_long {a : ByteArray} (h : 15 < a.size) : okW a.data.toList = false := by
  unfold okW; rw [size_len]; simp; omega
theorem okW_digits {a : ByteArray} (h : allD a.data.toList = false) : okW a.data.toList = false := by
  unfold okW; rw [h]; simp
theorem head_at {a : ByteArray} (h : 0 < a.size) : a.data.toList.head? = some a[0] := by
  have h0 : 0 < a.data.toList.length := by rw [size_len]; exact h
  have : a[0] = a.data.toList[0] := rfl
  rw [this, List.head?_eq_getElem?, List.getElem?_eq_getElem h0]
theorem okW_lead {a : ByteArray} (h : 1 < a.size) (h2 : a[0].toNat = 48) : okW a.data.toList = false := by
  unfold okW
  rw [head_at (by omega), size_len, UInt8.toNat_inj.1 (show a[0].toNat = (48 : UInt8).toNat from h2)]
  simp
  omega
theorem okW_one {a : ByteArray} (h : a.size = 1) (hd : allD a.data.toList = true) : okW a.data.toList = true := by
  unfold okW
  rw [size_len, h, hd]; simp
theorem okW_more {a : ByteArray} (h : 1 < a.size) (h15 : a.size ≤ 15) (h2 : a[0].toNat ≠ 48) (hd : allD a.data.toList = true) : okW a.data.toList = true := by
  unfold okW
  rw [size_len, hd, head_at (by omega)]
  have : (some a[0] == some (48 : UInt8)) = false := by
    rw [beq_eq_false_iff_ne]
    intro e
    injection e with e
    exact h2 (by rw [e]; rfl)
  rw [this]
  simp
  omega

theorem okF_none {f : ByteArray} (h : f.size = 0) : okF true f.data.toList = false := by
  have : f.data.toList = [] := List.length_eq_zero_iff.1 (by rw [size_len]; exact h)
  rw [this]; rfl
theorem okF_long {p : Bool} {f : ByteArray} (h : 6 < f.size) : okF p f.data.toList = false := by
  unfold okF; rw [size_len]; simp; omega
theorem okF_digits {p : Bool} {f : ByteArray} (h : allD f.data.toList = false) : okF p f.data.toList = false := by
  unfold okF; rw [h]; simp
theorem okF_true {f : ByteArray} (h : ¬ f.size = 0) (h6 : ¬ 6 < f.size) (hd : allD f.data.toList = true) : okF true f.data.toList = true := by
  unfold okF
  have : f.data.toList.isEmpty = false := by
    cases hh : f.data.toList with
    | nil => exact absurd (by rw [← size_len, hh]; rfl) h
    | cons c l => rfl
  rw [size_len, hd, this]; simp; omega
theorem okF_false {f : ByteArray} (h6 : ¬ 6 < f.size) (hd : allD f.data.toList = true) : okF false f.data.toList = true := by
  unfold okF; rw [size_len, hd]; simp; omega

end Go.Proofs.YtadhblppeaamlaaGreatDoor
