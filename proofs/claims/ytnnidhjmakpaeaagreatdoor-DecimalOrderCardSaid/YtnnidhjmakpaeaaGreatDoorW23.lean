/- Walks: Compare and Same. -/
import Derived.Test.YtnnidhjmakpaeaaGreatDoorW22
import Derived.Test.YtnnidhjmakpaeaaGreatDoorW8
namespace Go.Proofs.YtnnidhjmakpaeaaGreatDoor
open Go.RowKit
attribute [local go_sem] Ext.cell Ext.frozen
attribute [local go_sem ↓] Go.wp_at_zero Go.wp_at_succ

set_option maxHeartbeats 2000000 in
theorem compare_no1 (s t : ByteArray) (w : World) (hs : s.size ≤ 1000) (ht : t.size ≤ 1000) (ho : dOk s.data.toList = false) :
    Calls Tryz.prog 8 #[.string s, .string t] w fun e w' => e = .returned (.tuple #[.int .i64 (compV s.data.toList t.data.toList).1, .int .i64 ((compV s.data.toList t.data.toList).2 : Nat)]) ∧ Below w.heap.size w w' := by
  have HS := Lib.hid (fun w => split_any s w hs)
  have HT := Lib.hid (fun w => split_any t w ht)
  have HO : Hid (compV s.data.toList t.data.toList = (0, 1)) := compV_no1 ho
  rw [ho] at HS
  clear ho
  generalize dNeg s.data.toList = n1 at *
  generalize dNeg t.data.toList = n2 at *
  generalize dOk t.data.toList = ok2 at *
  generalize bs (dWhole s.data.toList) = a at *
  generalize bs (dFrac s.data.toList) = f at *
  generalize bs (dWhole t.data.toList) = b at *
  generalize bs (dFrac t.data.toList) = g at *
  go_enter Tryz.func8, Tryz.ntmps8
  go_wp2_with fail
  refine (Calls.toExt (HS.out _)).mono ?_
  rintro e _ ⟨rfl, x, rfl⟩
  have hxw : w.heap.size ≤ x.1.heap.size := by have := x.2.size; (try simp at this); omega
  go_wp2_with fail
  refine (Calls.toExt (HT.out _)).mono ?_
  rintro e _ ⟨rfl, y, rfl⟩
  have hyw : x.1.heap.size < y.1.heap.size := by have := y.2.size; (try simp at this); omega
  go_wp2_with fail
  go_ret2
  exact ⟨by rw [HO.out]; rfl, by (show Bel w _; (repeat (first | exact Bel.refl _ | refine Bel.ext ?_ _ | refine Bel.alloc ?_ _ | refine Bel.drewN ?_ _ | refine Bel.drew ?_ | refine Bel.setCell ?_ _ _ ?_ | exact Nat.le_refl _ | (simp; done) | omega | (simp <;> omega))))⟩

set_option maxHeartbeats 2000000 in
theorem compare_no2 (s t : ByteArray) (w : World) (hs : s.size ≤ 1000) (ht : t.size ≤ 1000) (h1 : dOk s.data.toList = true) (ho : dOk t.data.toList = false) :
    Calls Tryz.prog 8 #[.string s, .string t] w fun e w' => e = .returned (.tuple #[.int .i64 (compV s.data.toList t.data.toList).1, .int .i64 ((compV s.data.toList t.data.toList).2 : Nat)]) ∧ Below w.heap.size w w' := by
  have HS := Lib.hid (fun w => split_any s w hs)
  have HT := Lib.hid (fun w => split_any t w ht)
  have HO : Hid (compV s.data.toList t.data.toList = (0, 1)) := compV_no2 ho
  rw [ho] at HT
  rw [h1] at HS
  clear ho h1
  generalize dNeg s.data.toList = n1 at *
  generalize dNeg t.data.toList = n2 at *
  generalize bs (dWhole s.data.toList) = a at *
  generalize bs (dFrac s.data.toList) = f at *
  generalize bs (dWhole t.data.toList) = b at *
  generalize bs (dFrac t.data.toList) = g at *
  go_enter Tryz.func8, Tryz.ntmps8
  go_wp2_with fail
  refine (Calls.toExt (HS.out _)).mono ?_
  rintro e _ ⟨rfl, x, rfl⟩
  have hxw : w.heap.size ≤ x.1.heap.size := by have := x.2.size; (try simp at this); omega
  go_wp2_with fail
  refine (Calls.toExt (HT.out _)).mono ?_
  rintro e _ ⟨rfl, y, rfl⟩
  have hyw : x.1.heap.size < y.1.heap.size := by have := y.2.size; (try simp at this); omega
  go_wp2_with fail
  go_ret2
  exact ⟨by rw [HO.out]; rfl, by (show Bel w _; (repeat (first | exact Bel.refl _ | refine Bel.ext ?_ _ | refine Bel.alloc ?_ _ | refine Bel.drewN ?_ _ | refine Bel.drew ?_ | refine Bel.setCell ?_ _ _ ?_ | exact Nat.le_refl _ | (simp; done) | omega | (simp <;> omega))))⟩

set_option maxHeartbeats 2000000 in
theorem compare_both (s t : ByteArray) (w : World) (hs : s.size ≤ 1000) (ht : t.size ≤ 1000) (h1 : dOk s.data.toList = true) (h2 : dOk t.data.toList = true) (n1 : dNeg s.data.toList = true) (n2 : dNeg t.data.toList = true) :
    Calls Tryz.prog 8 #[.string s, .string t] w fun e w' => e = .returned (.tuple #[.int .i64 (compV s.data.toList t.data.toList).1, .int .i64 ((compV s.data.toList t.data.toList).2 : Nat)]) ∧ Below w.heap.size w w' := by
  have HS := Lib.hid (fun w => split_any s w hs)
  have HT := Lib.hid (fun w => split_any t w ht)
  obtain ⟨ha, hf, _, _, _⟩ := split_ok_facts h1
  obtain ⟨hb, hg, _, _, _⟩ := split_ok_facts h2
  have HZ := Lib.hid (fun w => size_any true true (bs (dWhole t.data.toList)) (bs (dFrac t.data.toList)) (bs (dWhole s.data.toList)) (bs (dFrac s.data.toList)) w (by omega) (by omega) (by omega) (by omega))
  simp only [bs_data] at HZ
  have HO : Hid (compV s.data.toList t.data.toList = (sizeD (dWhole t.data.toList) (dFrac t.data.toList) (dWhole s.data.toList) (dFrac s.data.toList), 0)) := by unfold Hid; rw [compV_yes h1 h2, comp_both h1 h2 n1 n2]
  rw [h1, n1] at HS
  rw [h2, n2] at HT
  clear h1 h2 n1 n2
  generalize sizeD (dWhole t.data.toList) (dFrac t.data.toList) (dWhole s.data.toList) (dFrac s.data.toList) = res at *
  generalize bs (dWhole s.data.toList) = a at *
  generalize bs (dFrac s.data.toList) = f at *
  generalize bs (dWhole t.data.toList) = b at *
  generalize bs (dFrac t.data.toList) = g at *
  go_enter Tryz.func8, Tryz.ntmps8
  go_wp2_with fail
  refine (Calls.toExt (HS.out _)).mono ?_
  rintro e _ ⟨rfl, x, rfl⟩
  have hxw : w.heap.size ≤ x.1.heap.size := by have := x.2.size; (try simp at this); omega
  go_wp2_with fail
  refine (Calls.toExt (HT.out _)).mono ?_
  rintro e _ ⟨rfl, y, rfl⟩
  have hyw : x.1.heap.size < y.1.heap.size := by have := y.2.size; (try simp at this); omega
  go_wp2_with fail
  refine (Calls.toExt (HZ.out _)).mono ?_
  rintro e _ ⟨rfl, z, rfl⟩
  go_wp2_with fail
  go_ret2
  exact ⟨by rw [HO.out]; rfl, by (show Bel w _; (repeat (first | exact Bel.refl _ | refine Bel.ext ?_ _ | refine Bel.alloc ?_ _ | refine Bel.drewN ?_ _ | refine Bel.drew ?_ | refine Bel.setCell ?_ _ _ ?_ | exact Nat.le_refl _ | (simp; done) | omega | (simp <;> omega))))⟩

set_option maxHeartbeats 2000000 in
theorem compare_left (s t : ByteArray) (w : World) (hs : s.size ≤ 1000) (ht : t.size ≤ 1000) (h1 : dOk s.data.toList = true) (h2 : dOk t.data.toList = true) (n1 : dNeg s.data.toList = true) (n2 : dNeg t.data.toList = false) :
    Calls Tryz.prog 8 #[.string s, .string t] w fun e w' => e = .returned (.tuple #[.int .i64 (compV s.data.toList t.data.toList).1, .int .i64 ((compV s.data.toList t.data.toList).2 : Nat)]) ∧ Below w.heap.size w w' := by
  have HS := Lib.hid (fun w => split_any s w hs)
  have HT := Lib.hid (fun w => split_any t w ht)
  obtain ⟨ha, hf, _, _, _⟩ := split_ok_facts h1
  obtain ⟨hb, hg, _, _, _⟩ := split_ok_facts h2
  have HO : Hid (compV s.data.toList t.data.toList = (-1, 0)) := by unfold Hid; rw [compV_yes h1 h2, comp_left h1 n1 n2]
  rw [h1, n1] at HS
  rw [h2, n2] at HT
  clear h1 h2 n1 n2
  generalize bs (dWhole s.data.toList) = a at *
  generalize bs (dFrac s.data.toList) = f at *
  generalize bs (dWhole t.data.toList) = b at *
  generalize bs (dFrac t.data.toList) = g at *
  go_enter Tryz.func8, Tryz.ntmps8
  go_wp2_with fail
  refine (Calls.toExt (HS.out _)).mono ?_
  rintro e _ ⟨rfl, x, rfl⟩
  have hxw : w.heap.size ≤ x.1.heap.size := by have := x.2.size; (try simp at this); omega
  go_wp2_with fail
  refine (Calls.toExt (HT.out _)).mono ?_
  rintro e _ ⟨rfl, y, rfl⟩
  have hyw : x.1.heap.size < y.1.heap.size := by have := y.2.size; (try simp at this); omega
  go_wp2_with fail
  go_ret2
  exact ⟨by rw [HO.out]; rfl, by (show Bel w _; (repeat (first | exact Bel.refl _ | refine Bel.ext ?_ _ | refine Bel.alloc ?_ _ | refine Bel.drewN ?_ _ | refine Bel.drew ?_ | refine Bel.setCell ?_ _ _ ?_ | exact Nat.le_refl _ | (simp; done) | omega | (simp <;> omega))))⟩

set_option maxHeartbeats 2000000 in
theorem compare_right (s t : ByteArray) (w : World) (hs : s.size ≤ 1000) (ht : t.size ≤ 1000) (h1 : dOk s.data.toList = true) (h2 : dOk t.data.toList = true) (n1 : dNeg s.data.toList = false) (n2 : dNeg t.data.toList = true) :
    Calls Tryz.prog 8 #[.string s, .string t] w fun e w' => e = .returned (.tuple #[.int .i64 (compV s.data.toList t.data.toList).1, .int .i64 ((compV s.data.toList t.data.toList).2 : Nat)]) ∧ Below w.heap.size w w' := by
  have HS := Lib.hid (fun w => split_any s w hs)
  have HT := Lib.hid (fun w => split_any t w ht)
  obtain ⟨ha, hf, _, _, _⟩ := split_ok_facts h1
  obtain ⟨hb, hg, _, _, _⟩ := split_ok_facts h2
  have HO : Hid (compV s.data.toList t.data.toList = (1, 0)) := by unfold Hid; rw [compV_yes h1 h2, comp_right h2 n1 n2]
  rw [h1, n1] at HS
  rw [h2, n2] at HT
  clear h1 h2 n1 n2
  generalize bs (dWhole s.data.toList) = a at *
  generalize bs (dFrac s.data.toList) = f at *
  generalize bs (dWhole t.data.toList) = b at *
  generalize bs (dFrac t.data.toList) = g at *
  go_enter Tryz.func8, Tryz.ntmps8
  go_wp2_with fail
  refine (Calls.toExt (HS.out _)).mono ?_
  rintro e _ ⟨rfl, x, rfl⟩
  have hxw : w.heap.size ≤ x.1.heap.size := by have := x.2.size; (try simp at this); omega
  go_wp2_with fail
  refine (Calls.toExt (HT.out _)).mono ?_
  rintro e _ ⟨rfl, y, rfl⟩
  have hyw : x.1.heap.size < y.1.heap.size := by have := y.2.size; (try simp at this); omega
  go_wp2_with fail
  go_ret2
  exact ⟨by rw [HO.out]; rfl, by (show Bel w _; (repeat (first | exact Bel.refl _ | refine Bel.ext ?_ _ | refine Bel.alloc ?_ _ | refine Bel.drewN ?_ _ | refine Bel.drew ?_ | refine Bel.setCell ?_ _ _ ?_ | exact Nat.le_refl _ | (simp; done) | omega | (simp <;> omega))))⟩

set_option maxHeartbeats 2000000 in
theorem compare_none (s t : ByteArray) (w : World) (hs : s.size ≤ 1000) (ht : t.size ≤ 1000) (h1 : dOk s.data.toList = true) (h2 : dOk t.data.toList = true) (n1 : dNeg s.data.toList = false) (n2 : dNeg t.data.toList = false) :
    Calls Tryz.prog 8 #[.string s, .string t] w fun e w' => e = .returned (.tuple #[.int .i64 (compV s.data.toList t.data.toList).1, .int .i64 ((compV s.data.toList t.data.toList).2 : Nat)]) ∧ Below w.heap.size w w' := by
  have HS := Lib.hid (fun w => split_any s w hs)
  have HT := Lib.hid (fun w => split_any t w ht)
  obtain ⟨ha, hf, _, _, _⟩ := split_ok_facts h1
  obtain ⟨hb, hg, _, _, _⟩ := split_ok_facts h2
  have HZ := Lib.hid (fun w => size_any false false (bs (dWhole s.data.toList)) (bs (dFrac s.data.toList)) (bs (dWhole t.data.toList)) (bs (dFrac t.data.toList)) w (by omega) (by omega) (by omega) (by omega))
  simp only [bs_data] at HZ
  have HO : Hid (compV s.data.toList t.data.toList = (sizeD (dWhole s.data.toList) (dFrac s.data.toList) (dWhole t.data.toList) (dFrac t.data.toList), 0)) := by unfold Hid; rw [compV_yes h1 h2, comp_none h1 h2 n1 n2]
  rw [h1, n1] at HS
  rw [h2, n2] at HT
  clear h1 h2 n1 n2
  generalize sizeD (dWhole s.data.toList) (dFrac s.data.toList) (dWhole t.data.toList) (dFrac t.data.toList) = res at *
  generalize bs (dWhole s.data.toList) = a at *
  generalize bs (dFrac s.data.toList) = f at *
  generalize bs (dWhole t.data.toList) = b at *
  generalize bs (dFrac t.data.toList) = g at *
  go_enter Tryz.func8, Tryz.ntmps8
  go_wp2_with fail
  refine (Calls.toExt (HS.out _)).mono ?_
  rintro e _ ⟨rfl, x, rfl⟩
  have hxw : w.heap.size ≤ x.1.heap.size := by have := x.2.size; (try simp at this); omega
  go_wp2_with fail
  refine (Calls.toExt (HT.out _)).mono ?_
  rintro e _ ⟨rfl, y, rfl⟩
  have hyw : x.1.heap.size < y.1.heap.size := by have := y.2.size; (try simp at this); omega
  go_wp2_with fail
  refine (Calls.toExt (HZ.out _)).mono ?_
  rintro e _ ⟨rfl, z, rfl⟩
  go_wp2_with fail
  go_ret2
  exact ⟨by rw [HO.out]; rfl, by (show Bel w _; (repeat (first | exact Bel.refl _ | refine Bel.ext ?_ _ | refine Bel.alloc ?_ _ | refine Bel.drewN ?_ _ | refine Bel.drew ?_ | refine Bel.setCell ?_ _ _ ?_ | exact Nat.le_refl _ | (simp; done) | omega | (simp <;> omega))))⟩

theorem compare_any (s t : ByteArray) (w : World) (hs : s.size ≤ 1000) (ht : t.size ≤ 1000) :
    Calls Tryz.prog 8 #[.string s, .string t] w fun e w' => e = .returned (.tuple #[.int .i64 (compV s.data.toList t.data.toList).1, .int .i64 ((compV s.data.toList t.data.toList).2 : Nat)]) ∧ Below w.heap.size w w' := by
  cases h1 : dOk s.data.toList with
  | false => exact compare_no1 s t w hs ht h1
  | true =>
    cases h2 : dOk t.data.toList with
    | false => exact compare_no2 s t w hs ht h1 h2
    | true =>
      cases n1 : dNeg s.data.toList <;> cases n2 : dNeg t.data.toList
      · exact compare_none s t w hs ht h1 h2 n1 n2
      · exact compare_right s t w hs ht h1 h2 n1 n2
      · exact compare_left s t w hs ht h1 h2 n1 n2
      · exact compare_both s t w hs ht h1 h2 n1 n2

/-- whether two numbers have the same value, and the error -/
def sameV (l m : List UInt8) : Bool × Nat := (decide ((compV l m).2 = 0) && decide ((compV l m).1 = 0), (compV l m).2)
theorem same_any (s t : ByteArray) (w : World) (hs : s.size ≤ 1000) (ht : t.size ≤ 1000) :
    Calls Tryz.prog 10 #[.string s, .string t] w fun e w' => e = .returned (.tuple #[.bool (sameV s.data.toList t.data.toList).1, .int .i64 ((sameV s.data.toList t.data.toList).2 : Nat)]) ∧ Below w.heap.size w w' := by
  have HC := Lib.hid (fun w => compare_any s t w hs ht)
  have hk : compV s.data.toList t.data.toList = (0, 1) ∨ ∃ k, compV s.data.toList t.data.toList = (k, 0) := by
    unfold compV; split
    · exact .inr ⟨_, rfl⟩
    · exact .inl rfl
  rcases hk with hk | ⟨k, hk⟩
  · have HO : Hid (sameV s.data.toList t.data.toList = (false, 1)) := by unfold Hid sameV; rw [hk]; rfl
    rw [hk] at HC
    clear hk
    go_enter Tryz.func10, Tryz.ntmps10
    go_wp2_with fail
    refine (Calls.toExt (HC.out _)).mono ?_
    rintro e _ ⟨rfl, x, rfl⟩
    go_wp2_with fail
    go_ret2
    exact ⟨by rw [HO.out]; rfl, by (show Bel w _; (repeat (first | exact Bel.refl _ | refine Bel.ext ?_ _ | refine Bel.alloc ?_ _ | refine Bel.drewN ?_ _ | refine Bel.drew ?_ | refine Bel.setCell ?_ _ _ ?_ | exact Nat.le_refl _ | (simp; done) | omega | (simp <;> omega))))⟩
  · rw [hk] at HC
    by_cases h0 : k = 0
    · have HO : Hid (sameV s.data.toList t.data.toList = (true, 0)) := by unfold Hid sameV; rw [hk, h0]; rfl
      subst h0
      clear hk
      go_enter Tryz.func10, Tryz.ntmps10
      go_wp2_with fail
      refine (Calls.toExt (HC.out _)).mono ?_
      rintro e _ ⟨rfl, x, rfl⟩
      go_wp2_with fail
      go_ret2
      exact ⟨by rw [HO.out]; rfl, by (show Bel w _; (repeat (first | exact Bel.refl _ | refine Bel.ext ?_ _ | refine Bel.alloc ?_ _ | refine Bel.drewN ?_ _ | refine Bel.drew ?_ | refine Bel.setCell ?_ _ _ ?_ | exact Nat.le_refl _ | (simp; done) | omega | (simp <;> omega))))⟩
    · have HO : Hid (sameV s.data.toList t.data.toList = (false, 0)) := by unfold Hid sameV; rw [hk]; simp [h0]
      have h2 : (k == 0) = false := by simpa using h0
      clear hk
      go_enter Tryz.func10, Tryz.ntmps10
      go_wp2_with fail
      refine (Calls.toExt (HC.out _)).mono ?_
      rintro e _ ⟨rfl, x, rfl⟩
      go_wp2_with fail
      go_ret2
      exact ⟨by rw [HO.out]; rfl, by (show Bel w _; (repeat (first | exact Bel.refl _ | refine Bel.ext ?_ _ | refine Bel.alloc ?_ _ | refine Bel.drewN ?_ _ | refine Bel.drew ?_ | refine Bel.setCell ?_ _ _ ?_ | exact Nat.le_refl _ | (simp; done) | omega | (simp <;> omega))))⟩
end Go.Proofs.YtnnidhjmakpaeaaGreatDoor
