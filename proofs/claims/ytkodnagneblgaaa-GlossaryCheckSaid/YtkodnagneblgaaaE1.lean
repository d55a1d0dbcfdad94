/- Walks: Find, by the program and by the reference, at few short terms. -/
import Derived.Test.YtkodnagneblgaaaDB
namespace Go.Proofs.Ytkodnagneblgaaa
open Go.RowKit Go.Maps Go.Sort
attribute [local go_sem] Ext.cell Ext.frozen
attribute [local go_sem ↓] Go.wp_at_zero Go.wp_at_succ
theorem long_any (s : ByteArray) (w : World) (hs : s.size ≤ 20000) : Calls Try.prog 37 #[.string s] w fun e w' => e = .returned (.bool false) ∧ w = w' := by
  have h1 : ¬ (20000 : Int) < (s.size : Int) := by omega
  go_enter Try.func37, Try.ntmps37
  go_wp2_with fail
  go_ret
  exact ⟨by simp, rfl⟩
theorem indexLong_any (terms : List ByteArray) (ad : Option Addr) (n c : Nat) (w : World) (hs : Sl w ad n (strs terms)) (hz : ∀ s ∈ terms, s.size ≤ 20000) :
    Calls Try.prog 43 #[.slice ad n c, .func (.func 37) #[] #[]] w fun e w' => e = .returned (.int .i64 (-1)) ∧ w = w' := by
  have hl := hs.len
  rw [strs_length] at hl
  have hmx := hs.max
  have HS := Lib.hid hs
  have HZ := Lib.hid hz
  have HL := Lib.hid hl
  have HLO := Lib.hid long_any
  clear hs hz hl
  go_enter Try.func43, Try.ntmps43
  go_wp2_with fail
  go_loopw [8] (fun u wr => ∃ i : Nat, u = .int .i64 (i : Int) ∧ i ≤ n ∧ wr = w) (fun u _ => n - (intOf u).toNat)
  case atStart => exact ⟨0, rfl, Nat.zero_le _, rfl⟩
  case round =>
    obtain ⟨i, rfl, hin, rfl⟩ := hrel
    by_cases hlt : i < n
    · obtain ⟨b0, o0, hsa⟩ := HS.out
      have hix0 := fun W => hsa.ix (c := c) 39 9 Try.underlying39 cellsStr hlt W
      have hc0 := hsa.cell i hlt
      rw [strs_getD _ _ (by rw [HL.out]; exact hlt)] at hc0
      have HSZ := Lib.hid (HZ.out (terms.getD i .empty) (getD_mem _ _ _ (by rw [HL.out]; exact hlt)))
      have hlz : (i : Int) < (n : Int) := by omega
      clear hsa
      generalize terms.getD i .empty = st at *
      go_wp2_with fail
      refine (HLO.out st _ HSZ.out).mono ?_
      rintro e _ ⟨rfl, rfl⟩
      go_wp2_with fail
      go_roundw
      case rel => exact ⟨i + 1, by go_num, by omega, trivial⟩
      case measure => simp [intOf]; omega
    · obtain rfl : i = n := by omega
      go_wp2_with fail
      go_ret
      exact ⟨rfl, rfl⟩
theorem containsLong_any (terms : List ByteArray) (ad : Option Addr) (n c : Nat) (w : World) (hs : Sl w ad n (strs terms)) (hz : ∀ s ∈ terms, s.size ≤ 20000) :
    Calls Try.prog 36 #[.slice ad n c, .func (.func 37) #[] #[]] w fun e w' => e = .returned (.bool false) ∧ w = w' := by
  have HI := Lib.hid (indexLong_any terms ad n c w hs hz)
  clear hs hz
  go_enter Try.func36, Try.ntmps36
  go_wp2_with fail
  refine HI.out.mono ?_
  rintro e _ ⟨rfl, rfl⟩
  go_wp2_with fail
  go_ret
  exact ⟨rfl, rfl⟩
/-- what Find answers -/
def FindPost (lists : List (List ByteArray)) (ws : List ByteArray) (w : World) (e : Ending) (w' : World) : Prop :=
  ∃ ad' c', e = .returned (.tuple #[.slice ad' (findL lists ws).length c', .int .i64 0]) ∧ PrR w' w.heap.size (.slice ad' (findL lists ws).length c') (findL lists ws) ∧ Below w.heap.size w w'
set_option maxHeartbeats 1000000 in
theorem pfind_any (terms : List ByteArray) (ad : Option Addr) (n c : Nat) (s : ByteArray) (w : World) (ht : Sl w ad n (strs terms)) (hn : n ≤ 40) (hz : ∀ s ∈ terms, s.size ≤ 20000) (hs : s.size ≤ 20000) :
    Calls Try.prog 21 #[.slice ad n c, .string s] w (FindPost (terms.map wordsB) (wordsB s) w) := by
  have HC := Lib.hid (containsLong_any terms ad n c w ht hz)
  have HF := Lib.hid (find_any terms ad n c s w ht hn (fun s h => Nat.le_trans (hz s h) (by omega)) (by omega))
  have h1 : ¬ (200 : Int) < (n : Int) := by omega
  have d1 : decide ((200 : Int) < (n : Int)) = false := decide_eq_false h1
  have h2 : ¬ (20000 : Int) < (s.size : Int) := by omega
  have d2 : decide ((20000 : Int) < (s.size : Int)) = false := decide_eq_false h2
  clear ht hz
  unfold FindPost
  generalize findL (terms.map wordsB) (wordsB s) = fl at *
  go_enter Try.func21, Try.ntmps21
  go_wp2_with fail
  refine HC.out.mono ?_
  rintro e _ ⟨rfl, rfl⟩
  go_wp2_with fail
  refine HF.out.mono ?_
  rintro e w1 ⟨ad', c', rfl, hpr, hbl⟩
  have HPR := Lib.hid hpr
  have HBL := Lib.hid hbl
  clear hpr hbl
  go_wp2_with fail
  go_ret2
  exact ⟨ad', c', rfl, HPR.out, HBL.out⟩
set_option maxHeartbeats 1000000 in
theorem prfind_any (terms : List ByteArray) (ad : Option Addr) (n c : Nat) (s : ByteArray) (w : World) (ht : Sl w ad n (strs terms)) (hn : n ≤ 40) (hz : ∀ s ∈ terms, s.size ≤ 20000) (hs : s.size ≤ 20000) :
    Calls Try.prog 22 #[.slice ad n c, .string s] w (FindPost (terms.map wordsB) (wordsB s) w) := by
  have hl := ht.len
  rw [strs_length] at hl
  have HS := Lib.hid ht
  have HZ := Lib.hid hz
  have HL := Lib.hid hl
  have HF := Lib.hid (fun W (h : Below w.heap.size w W) => rfind_any terms ad n c s W (ht.below h) hn (fun s h => Nat.le_trans (hz s h) (by omega)) (by omega))
  have h1 : ¬ (200 : Int) < (n : Int) := by omega
  have d1 : decide ((200 : Int) < (n : Int)) = false := decide_eq_false h1
  have h2 : ¬ (20000 : Int) < (s.size : Int) := by omega
  have d2 : decide ((20000 : Int) < (s.size : Int)) = false := decide_eq_false h2
  clear ht hz hl
  unfold FindPost
  generalize findL (terms.map wordsB) (wordsB s) = fl at *
  go_enter Try.func22, Try.ntmps22
  go_wp2_with fail
  go_loopw [6] (fun u wr => ∃ i : Nat, u = .int .i64 (i : Int) ∧ i ≤ n ∧ wr = w) (fun u _ => n - (intOf u).toNat)
  case atStart => exact ⟨0, rfl, Nat.zero_le _, rfl⟩
  case round =>
    obtain ⟨i, rfl, hin, rfl⟩ := hrel
    by_cases hlt : i < n
    · obtain ⟨b0, o0, hsa⟩ := HS.out
      have hix0 := fun W => hsa.ix (c := c) 39 9 Try.underlying39 cellsStr hlt W
      have hc0 := hsa.cell i hlt
      rw [strs_getD _ _ (by rw [HL.out]; exact hlt)] at hc0
      have hsz := HZ.out (terms.getD i .empty) (getD_mem _ _ _ (by rw [HL.out]; exact hlt))
      have h3 : ¬ (20000 : Int) < ((terms.getD i .empty).size : Int) := by omega
      have hlz : (i : Int) < (n : Int) := by omega
      clear hsa hsz
      generalize terms.getD i .empty = st at *
      go_wp2_with fail
      go_roundw
      case rel => exact ⟨i + 1, by go_num, by omega, trivial⟩
      case measure => simp [intOf]; omega
    · obtain rfl : i = n := by omega
      go_wp2_with fail
      refine (HF.out _ (Below.refl _ _)).mono ?_
      rintro e w1 ⟨ad', c', rfl, hpr, hbl⟩
      have HPR := Lib.hid hpr
      have HBL := Lib.hid hbl
      clear hpr hbl
      go_wp2_with fail
      go_ret2
      exact ⟨ad', c', rfl, HPR.out, HBL.out⟩
end Go.Proofs.Ytkodnagneblgaaa
