/- Walks: wrong translations, by the program. -/
import Derived.Test.YtkodnagneblgaaaF7
namespace Go.Proofs.Ytkodnagneblgaaa
open Go.RowKit Go.Maps Go.Sort
attribute [local go_sem] Ext.cell Ext.frozen
attribute [local go_sem ↓] Go.wp_at_zero Go.wp_at_succ
/-- what the closure reads -/
def WrAt (w : World) (B1 B2 M1 m1 : Nat) (kt : ByteArray) (cs : ByteArray → Nat) (lv mv : Value) : Prop :=
  w.heap[B1]? = some (.cells #[.string kt] 9 (0, 0)) ∧ w.heap[B2]? = some (.cells #[lv, .map (some M1), mv] 57 (0, 0)) ∧ CntAt w M1 m1 cs
theorem WrAt.below {w w' : World} {B1 B2 M1 m1 : Nat} {kt : ByteArray} {cs : ByteArray → Nat} {lv mv : Value} (h : WrAt w B1 B2 M1 m1 kt cs lv mv) (hb : Below w.heap.size w w') : WrAt w' B1 B2 M1 m1 kt cs lv mv :=
  ⟨(hb.block _ (Array.getElem?_eq_some_iff.1 h.1).1).trans h.1, (hb.block _ (Array.getElem?_eq_some_iff.1 h.2.1).1).trans h.2.1, h.2.2.below hb⟩
set_option maxRecDepth 100000 in
set_option maxHeartbeats 8000000 in
theorem indexW_any (ts : List Tm) (cs : ByteArray → Nat) (kt : ByteArray) (B1 B2 M1 m1 : Nat) (lv mv : Value) (ad : Option Addr) (n c : Nat) (w : World) (ht : TmAt w ad n ts) (hn : n ≤ 1000) (hz : ∀ x ∈ ts, x.s.size ≤ 100000 ∧ x.t.size ≤ 100000) (hcs : ∀ t, cs t ≤ 1000001) (h1 : WrAt w B1 B2 M1 m1 kt cs lv mv) :
    Calls Try.prog 46 #[.slice ad n c, .func (.func 40) #[] #[.pointer (some ⟨B1, 0, none⟩), .pointer (some ⟨B2, 0, none⟩)]] w
      fun e w' => ∃ z : Int, e = .returned (.int .i64 z) ∧ -1 ≤ z ∧ z ≤ 1000 ∧ (decide (0 ≤ z) = ts.any (allowB cs kt)) ∧ Below w.heap.size w w' := by
  have HT := Lib.hid ht
  have HZ := Lib.hid hz
  have HL := Lib.hid ht.1
  have HW := Lib.hid h1
  have HC := Lib.hid (fun (x : Tm) (W : World) hs ht (h : WrAt W B1 B2 M1 m1 kt cs lv mv) => wrong1_any x cs kt B1 B2 M1 m1 lv mv W hs ht hcs h.2.2 h.1 h.2.1)
  clear ht hz h1 hcs
  go_enter Try.func46, Try.ntmps46
  go_wp2_with fail
  go_loopw [8] (fun u wr => ∃ i : Nat, u = .int .i64 (i : Int) ∧ i ≤ n ∧ (∀ j, j < i → allowB cs kt (ts.getD j tm0) = false) ∧ Below w.heap.size w wr) (fun u _ => n - (intOf u).toNat)
  case atStart => exact ⟨0, rfl, Nat.zero_le _, fun j hj => absurd hj (Nat.not_lt_zero _), Below.refl _ _⟩
  case round =>
    obtain ⟨i, rfl, hin, hno, hbl⟩ := hrel
    have HNO := Lib.hid hno
    have HB := Lib.hid hbl
    clear hno hbl
    by_cases hlt : i < n
    · obtain ⟨_, tb, tq, hrw⟩ := HT.out.below HB.out
      have hix := fun W => hrw.ix 29 53 Try.underlying29 cellsTm (by omega) hlt c W
      have h0 := hrw.cell i 0 hlt (by omega)
      have h1 := hrw.cell i 1 hlt (by omega)
      have h2 := hrw.cell i 2 hlt (by omega)
      rw [Nat.add_zero] at h0
      simp only [tmC] at h0 h1 h2
      have hmem := getD_mem ts i tm0 (by rw [HL.out]; exact hlt)
      obtain ⟨z1, z2⟩ := HZ.out (ts.getD i tm0) hmem
      have HZ1 := Lib.hid z1
      have HZ2 := Lib.hid z2
      have HNX : Hid (allowB cs kt (ts.getD i tm0) = false → ∀ j, j < i + 1 → allowB cs kt (ts.getD j tm0) = false) := fun h j hj => by
        by_cases e : j = i
        · rw [e]; exact h
        · exact HNO.out j (by omega)
      have HYS : Hid (allowB cs kt (ts.getD i tm0) = true → ts.any (allowB cs kt) = true) := fun h => List.any_eq_true.2 ⟨_, hmem, h⟩
      have hlz : (i : Int) < (n : Int) := by omega
      clear hrw z1 z2 hmem HNO
      have HC1 := Lib.hid (HC.out (ts.getD i tm0))
      generalize ts.getD i tm0 = x at *
      have HC2 : Hid (allowB cs kt x = allowB cs kt x) := rfl
      generalize hal : allowB cs kt x = al at *
      clear hal HC2
      go_wp2_with fail
      refine (HC1.out _ HZ1.out HZ2.out (HW.out.below HB.out)).mono ?_
      rintro e w2 ⟨rfl, hb⟩
      have HB2 := Lib.hid (HB.out.trans (hb.mono HB.out.size))
      clear hb
      cases al with
      | true =>
        have HV := HYS.out rfl
        go_wp2_with fail
        go_ret
        exact ⟨_, rfl, by omega, by omega, by rw [HV]; exact decide_eq_true (by omega), HB2.out⟩
      | false =>
        have HN := Lib.hid (HNX.out rfl)
        clear HNX HYS
        go_wp2_with fail
        go_roundw
        case rel => exact ⟨i + 1, by go_num, by omega, HN.out, HB2.out⟩
        case measure => simp [intOf]; omega
    · obtain rfl : i = n := by omega
      have HV : Hid (ts.any (allowB cs kt) = false) := by
        rw [Hid, List.any_eq_false]
        intro x hx
        obtain ⟨j, hj, rfl⟩ := List.getElem_of_mem hx
        have := HNO.out j (by rw [← HL.out]; exact hj)
        rw [List.getD_eq_getElem?_getD, List.getElem?_eq_getElem hj] at this
        simpa using this
      go_wp2_with fail
      go_ret
      exact ⟨_, rfl, by omega, by omega, by rw [HV.out]; rfl, HB.out⟩
theorem containsW_any (ts : List Tm) (cs : ByteArray → Nat) (kt : ByteArray) (B1 B2 M1 m1 : Nat) (lv mv : Value) (ad : Option Addr) (n c : Nat) (w : World) (ht : TmAt w ad n ts) (hn : n ≤ 1000) (hz : ∀ x ∈ ts, x.s.size ≤ 100000 ∧ x.t.size ≤ 100000) (hcs : ∀ t, cs t ≤ 1000001) (h1 : WrAt w B1 B2 M1 m1 kt cs lv mv) :
    Calls Try.prog 39 #[.slice ad n c, .func (.func 40) #[] #[.pointer (some ⟨B1, 0, none⟩), .pointer (some ⟨B2, 0, none⟩)]] w
      fun e w' => e = .returned (.bool (ts.any (allowB cs kt))) ∧ Below w.heap.size w w' := by
  have HI := Lib.hid (indexW_any ts cs kt B1 B2 M1 m1 lv mv ad n c w ht hn hz hcs h1)
  clear ht hz h1 hcs
  generalize ts.any (allowB cs kt) = b at *
  go_enter Try.func39, Try.ntmps39
  go_wp2_with fail
  refine HI.out.mono ?_
  rintro e w1 ⟨z, rfl, hz1, hz2, hzb, hb⟩
  have HB := Lib.hid hb
  have HZB := Lib.hid hzb
  clear hb hzb
  go_wp2_with fail
  go_ret
  exact ⟨by rw [← HZB.out]; rfl, HB.out⟩
end Go.Proofs.Ytkodnagneblgaaa
