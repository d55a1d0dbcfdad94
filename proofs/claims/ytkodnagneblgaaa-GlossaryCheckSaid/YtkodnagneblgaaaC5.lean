/- Walks: the library's rotate, on a row of numbers. -/
import Derived.Test.YtkodnagneblgaaaC4
namespace Go.Proofs.Ytkodnagneblgaaa
open Go.RowKit Go.Sort
attribute [local go_sem ↓] Go.wp_at_zero Go.wp_at_succ
theorem row_two {K : Nat} {w : World} {blk off : Nat} {d d' : Array (Fin (K + 1))} {q q' : Nat} (h : d'.size = d.size) : (putRow encI ((putRow encI w blk off d).drewN q) blk off d').drewN q' = (putRow encI w blk off d').drewN (q + q') := by
  rw [← World.drewN_drewN, ← putRow_putRow encI w blk off d d' h]
  rfl
set_option maxRecDepth 20000 in
set_option maxHeartbeats 4000000 in
theorem rotate_any {K : Nat} (blk off cap a m b : Nat) (fv : Value) (d : Array (Fin (K + 1))) (w : World) (hH : Holds encI w blk off d) (ham : a < m) (hmb : m < b) (hb : b ≤ d.size) (hsz : d.size < 4611686018427387904) :
    Calls Try.prog 60 #[.slice (some ⟨blk, off, none⟩) d.size cap, .int .i64 a, .int .i64 m, .int .i64 b, fv] w fun e w' => e = .returned (.tuple #[]) ∧
      ∃ (q : Nat) (d' : Array (Fin (K + 1))), d'.size = d.size ∧ RotO (zOf d) (zOf d') a m b ∧ w' = (putRow encI w blk off d').drewN q := by
  have HST : Hid (w = (putRow encI w blk off d).drewN 0) := (putRow_self encI w blk off d hH).symm
  have HH : Hid (Holds encI w blk off d) := hH
  have HR0 := Lib.hid (rotF_start (z := zOf d) (Nat.le_of_lt ham) (Nat.le_of_lt hmb))
  have HRR := Lib.hid (rotF_rot (zOf d) (Nat.le_of_lt ham) (Nat.le_of_lt hmb))
  generalize hT : rotF (zOf d) a m b = T at *
  have HT := Lib.hid hT
  have HSR : Hid (∀ (a b n : Nat) (dk : Array (Fin (K + 1))) (W : World), Holds encI W blk off dk → a + n ≤ b → b + n ≤ dk.size → dk.size = d.size → Calls Try.prog 61 #[.slice (some ⟨blk, off, none⟩) d.size cap, .int .i64 a, .int .i64 b, .int .i64 n, fv] W fun e w' => e = .returned (.tuple #[]) ∧
      ∃ (q : Nat) (d' : Array (Fin (K + 1))), d'.size = d.size ∧ SwapO (zOf dk) (zOf d') a b n ∧ w' = (putRow encI W blk off d').drewN q) := fun a b n dk W h1 h2 h3 h4 => by
    have := swapRange_any blk off cap a b n fv dk W h1 h2 h3 (by omega)
    rw [h4] at this
    exact this
  clear hH hT
  have e1 : (m : Int) - (a : Int) = ((m - a : Nat) : Int) := by omega
  have e2 : (b : Int) - (m : Int) = ((b - m : Nat) : Int) := by omega
  go_enter Try.func60, Try.ntmps60
  go_wp2_with fail
  go_loopw [10, 11] (fun u v wr => ∃ (i j q : Nat) (dk : Array (Fin (K + 1))), u = .int .i64 (i : Int) ∧ v = .int .i64 (j : Int) ∧ 0 < i ∧ 0 < j ∧ i ≤ m - a ∧ j ≤ b - m ∧ dk.size = d.size ∧ RotI (zOf dk) T m i j ∧ wr = (putRow encI w blk off dk).drewN q) (fun u v _ => (intOf u).toNat + (intOf v).toNat)
  case atStart => exact ⟨m - a, b - m, 0, d, rfl, rfl, by omega, by omega, Nat.le_refl _, Nat.le_refl _, rfl, HR0.out, HST.out⟩
  case round =>
    obtain ⟨i, j, q, dk, rfl, rfl, hi, hj, him, hjm, hsk, hrot, rfl⟩ := hrel
    have HROT := Lib.hid hrot
    have HK : Hid (Holds encI ((putRow encI w blk off dk).drewN q) blk off dk) := holds_putRow encI w blk off d dk HH.out hsk
    have HRT : Hid (∀ (d' : Array (Fin (K + 1))) (q' : Nat), d'.size = d.size → (putRow encI ((putRow encI w blk off dk).drewN q) blk off d').drewN q' = (putRow encI w blk off d').drewN (q + q')) := fun d' q' h => row_two (by omega)
    have e3 : (m : Int) - (i : Int) = ((m - i : Nat) : Int) := by omega
    obtain ⟨M0, hM0⟩ : ∃ M0, m - i = M0 := ⟨_, rfl⟩
    rw [hM0] at e3
    clear hrot
    generalize hwq : (putRow encI w blk off dk).drewN q = wq at *
    clear hwq
    by_cases hij : i = j
    · subst hij
      have eb : ((i : Int) == (i : Int)) = true := by simp
      go_wp2_with fail
      refine (HSR.out M0 m i dk wq HK.out (by omega) (by omega) hsk).mono ?_
      rintro e w2 ⟨rfl, q2, d2, hs2, hsw, rfl⟩
      have HD := Lib.hid (HROT.out.done (by omega) (by rw [← hM0] at hsw; exact hsw))
      have HW2 := Lib.hid (HRT.out d2 q2 hs2)
      clear hsw
      go_wp2_with fail
      go_end0
      exact ⟨rfl, q + q2, d2, hs2, by rw [HD.out]; exact HRR.out, HW2.out⟩
    · have eb : ((i : Int) == (j : Int)) = false := by rw [beq_eq_false_iff_ne]; omega
      by_cases hgt : j < i
      · have eg : (j : Int) < (i : Int) := by omega
        have e4 : (i : Int) - (j : Int) = ((i - j : Nat) : Int) := by omega
        go_wp2_with fail
        refine (HSR.out M0 m j dk wq HK.out (by omega) (by omega) hsk).mono ?_
        rintro e w2 ⟨rfl, q2, d2, hs2, hsw, rfl⟩
        have HD := Lib.hid (HROT.out.left (by omega) hgt (by rw [← hM0] at hsw; exact hsw))
        have HW2 := Lib.hid (HRT.out d2 q2 hs2)
        clear hsw
        go_wp2_with fail
        go_roundw
        case rel => exact ⟨i - j, j, q + q2, d2, by go_num, by go_num, by omega, by omega, by omega, by omega, hs2, HD.out, HW2.out⟩
        case measure => simp [intOf]; omega
      · have eg : ¬ (j : Int) < (i : Int) := by omega
        have e4 : (j : Int) - (i : Int) = ((j - i : Nat) : Int) := by omega
        obtain ⟨M1, hM1⟩ : ∃ M1, m + j - i = M1 := ⟨_, rfl⟩
        have e5 : (m : Int) + (j : Int) - (i : Int) = (M1 : Int) := by omega
        go_wp2_with fail
        refine (HSR.out M0 M1 i dk wq HK.out (by omega) (by omega) hsk).mono ?_
        rintro e w2 ⟨rfl, q2, d2, hs2, hsw, rfl⟩
        have HD := Lib.hid (HROT.out.right (by omega) (by omega) (by rw [← hM0, ← hM1] at hsw; exact hsw))
        have HW2 := Lib.hid (HRT.out d2 q2 hs2)
        clear hsw
        go_wp2_with fail
        go_roundw
        case rel => exact ⟨i, j - i, q + q2, d2, by go_num, by go_num, by omega, by omega, by omega, by omega, hs2, HD.out, HW2.out⟩
        case measure => simp [intOf]; omega
end Go.Proofs.Ytkodnagneblgaaa
