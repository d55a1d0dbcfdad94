/- Plain: a key that is there is chosen: the very number or text, then the class, then other. -/
import Derived.Test.YtadhblppeaamlaaGreatDoorS4
namespace Go.Proofs.YtadhblppeaamlaaGreatDoor
open Go.RowKit

theorem firstK_in {keys : List ByteArray} {a : ByteArray} {r : List ByteArray} (h : a ∈ keys) : firstK keys (a :: r) = ((keys.idxOf a : Nat) : Int) := if_pos h
theorem firstK_out {keys : List ByteArray} {a : ByteArray} {r : List ByteArray} (h : a ∉ keys) : firstK keys (a :: r) = firstK keys r := if_neg h
theorem idxOf_getD {keys : List ByteArray} {a : ByteArray} (h : a ∈ keys) : keys.getD (keys.idxOf a) .empty = a := by
  have h2 := List.idxOf_lt_length_of_mem h
  rw [List.getD, List.getElem?_eq_getElem h2, Option.getD_some]
  exact List.getElem_idxOf h2
/-- the key that a list of wanted keys chooses -/
def pickV (keys want : List ByteArray) : ByteArray × Nat :=
  if firstK keys want < 0 then (.empty, 13) else (keys.getD (firstK keys want).toNat .empty, 0)
theorem pickV_nil (keys : List ByteArray) : pickV keys [] = (.empty, 13) := rfl
theorem pickV_in {keys : List ByteArray} {a : ByteArray} {r : List ByteArray} (h : a ∈ keys) : pickV keys (a :: r) = (a, 0) := by
  unfold pickV
  rw [firstK_in h, if_neg (by omega), Int.toNat_natCast, idxOf_getD h]
theorem pickV_out {keys : List ByteArray} {a : ByteArray} {r : List ByteArray} (h : a ∉ keys) : pickV keys (a :: r) = pickV keys r := by
  unfold pickV
  rw [firstK_out h]
theorem keyV_pick (kind : Int) (rs : List (ByteArray × List (List Rel))) (keys : List ByteArray) (v : Vl) :
    keyV kind rs keys v = if ahead kind rs (some v) = 0 then pickV keys (wantV kind rs v.tx) else (.empty, ahead kind rs (some v)) := rfl
theorem classOf_ne {rs : List (ByteArray × List (List Rel))} (h : validR rs = true) (s : List UInt8) : classOf rs s ≠ .empty := by
  unfold classOf
  split
  · rename_i r hf
    have hm := List.mem_of_find?_eq_some hf
    obtain ⟨i, hi, e⟩ := List.getElem_of_mem hm
    have h1 := List.all_eq_true.1 h i (List.mem_range.2 hi)
    simp only [ruleOk, Bool.and_eq_true] at h1
    have h2 := h1.1.1
    rw [show rs.getD i (.empty, []) = r from by simp [List.getD, List.getElem?_eq_getElem hi, e]] at h2
    intro hc
    rw [hc] at h2
    exact absurd h2 (by decide)
  · decide
/-- what ChooseExact demands of a key, its error, the class and its error -/
def exactOk (kind : Int) (keys : List ByteArray) (tx : ByteArray) (k : ByteArray × Nat) (c : ByteArray × Nat) : Bool :=
  if k.2 ≠ 0 then decide (k.1 = .empty)
  else if kind = 9 then (if keys.contains tx then decide (k.1 = tx) else decide (k.1 = otherB))
  else if c.2 ≠ 0 then false
  else if keys.contains (bs (61 :: tx.data.toList)) then decide (k.1 = bs (61 :: tx.data.toList))
  else if c.1 ≠ .empty ∧ keys.contains c.1 = true then decide (k.1 = c.1)
  else decide (k.1 = otherB)
theorem pick_err {keys want : List ByteArray} (h : (pickV keys want).2 ≠ 0) : (pickV keys want).1 = .empty := by
  unfold pickV at h ⊢
  split
  · rfl
  · rename_i hc
    rw [if_neg hc] at h
    exact absurd rfl h
theorem pick_two {keys : List ByteArray} {a b : ByteArray} (h : (pickV keys [a, b]).2 = 0) (hn : a ∉ keys) : (pickV keys [a, b]).1 = b := by
  rw [pickV_out hn] at h ⊢
  by_cases hb : b ∈ keys
  · rw [pickV_in hb]
  · rw [pickV_out hb, pickV_nil] at h
    cases h
theorem exact_holds (kind : Int) (rs : List (ByteArray × List (List Rel))) (keys : List ByteArray) (v : Vl) :
    exactOk kind keys v.tx (keyV kind rs keys v) (clsV kind rs v.tx.data.toList) = true := by
  rw [keyV_pick]
  by_cases ha : ahead kind rs (some v) = 0
  · rw [if_pos ha]
    have hk : 7 ≤ kind ∧ kind ≤ 9 := by
      by_cases h : 7 ≤ kind ∧ kind ≤ 9
      · exact h
      · unfold ahead at ha
        rw [if_pos h] at ha
        cases ha
    have hr : validR rs = true := by
      cases h : validR rs with
      | true => rfl
      | false =>
        unfold ahead at ha
        rw [if_neg (by simpa using hk), if_pos h] at ha
        cases ha
    have hs : suitV kind v = true := by
      cases h : suitV kind v with
      | true => rfl
      | false =>
        unfold ahead at ha
        rw [if_neg (by simpa using hk), if_neg (by rw [hr]; simp)] at ha
        simp [h] at ha
    by_cases he : (pickV keys (wantV kind rs v.tx)).2 = 0
    · by_cases h9 : kind = 9
      · have ew : wantV kind rs v.tx = [v.tx, otherB] := if_pos h9
        rw [ew] at he ⊢
        unfold exactOk
        rw [if_neg (by rw [he]; simp), if_pos h9]
        by_cases hm : v.tx ∈ keys
        · rw [if_pos (List.contains_iff_mem.2 hm), pickV_in hm]
          simp
        · rw [if_neg (by rw [List.contains_iff_mem]; exact hm), pick_two he hm]
          simp
      · have ew : wantV kind rs v.tx = [bs (61 :: v.tx.data.toList), (classV rs v.tx.data.toList).1, otherB] := if_neg h9
        have hd : dOk v.tx.data.toList = true := by
          unfold suitV at hs
          rw [if_neg h9, Bool.and_eq_true, decide_eq_true_eq] at hs
          have h1 := hs.1
          unfold properVl at h1
          rw [if_neg (by rw [hs.2]; omega), if_pos hs.2, Bool.and_eq_true, Bool.and_eq_true] at h1
          exact h1.1.1
        rw [classV_yes hr hd] at ew
        have ec : clsV kind rs v.tx.data.toList = (classOf rs v.tx.data.toList, 0) := by
          unfold clsV
          rw [if_pos ⟨by omega, hd⟩, if_pos hr]
        rw [ew] at he ⊢
        rw [ec]
        have hne := classOf_ne hr v.tx.data.toList
        generalize classOf rs v.tx.data.toList = cl at *
        unfold exactOk
        rw [if_neg (by rw [he]; simp), if_neg h9, if_neg (by simp)]
        by_cases hm : bs (61 :: v.tx.data.toList) ∈ keys
        · rw [if_pos (List.contains_iff_mem.2 hm), pickV_in hm]
          simp
        · rw [if_neg (by rw [List.contains_iff_mem]; exact hm)]
          rw [pickV_out hm] at he ⊢
          by_cases hc : cl ∈ keys
          · rw [if_pos ⟨hne, List.contains_iff_mem.2 hc⟩, pickV_in hc]
            simp
          · rw [if_neg (by rintro ⟨_, h⟩; exact hc (List.contains_iff_mem.1 h)), pick_two he hc]
            simp
    · unfold exactOk
      rw [if_pos he, pick_err he]
      simp
  · rw [if_neg ha]
    unfold exactOk
    rw [if_pos ha]
    simp
end Go.Proofs.YtadhblppeaamlaaGreatDoor
