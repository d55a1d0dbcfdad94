/- Walks: the library's swapRange and rotate, on a row of numbers. -/
import Derived.Test.YtkodnagneblgaaaC0
import Derived.Test.YtkodnagneblgaaaB1
import Derived.Shelf.SlSortCmp.Insertion
namespace Go.Proofs.Ytkodnagneblgaaa
open Go.RowKit Go.Sort
attribute [local go_sem ↓] Go.wp_at_zero Go.wp_at_succ
abbrev encI {K : Nat} (x : Fin (K + 1)) : Value := Value.int .i64 (x.val : Int)
/-- what stands at a place -/
abbrev zOf {K : Nat} (d : Array (Fin (K + 1))) (i : Nat) : Int := ((d[i]!).val : Int)
theorem swp_at {K : Nat} {d : Array (Fin (K + 1))} {i j : Nat} (hi : i < d.size) (hj : j < d.size) (hij : i ≠ j) (k : Nat) : (swp d i j)[k]! = if k = i then d[j]! else if k = j then d[i]! else d[k]! := by
  by_cases h1 : k = i
  · subst h1
    rw [if_pos rfl]
    exact swp_left d k j hi hij
  · rw [if_neg h1]
    by_cases h2 : k = j
    · subst h2
      rw [if_pos rfl]
      exact swp_right d i k hj
    · rw [if_neg h2]
      exact swp_other d i j k h1 h2
theorem SwapO.step {K : Nat} {z : Nat → Int} {d : Array (Fin (K + 1))} {a b i : Nat} (h : SwapO z (zOf d) a b i) (hab : a + i < b) (hb : b + i < d.size) : SwapO z (zOf (swp d (a + i) (b + i))) a b (i + 1) := by
  obtain ⟨h1, h2⟩ := h
  refine ⟨fun x hx => ?_, fun k k1 k2 => ?_⟩
  · unfold zOf
    rw [swp_at (by omega) hb (by omega), swp_at (by omega) hb (by omega)]
    by_cases hxi : x = i
    · subst hxi
      rw [if_pos rfl, if_neg (by omega), if_pos rfl]
      exact ⟨h2 (b + x) (by omega) (by omega), h2 (a + x) (by omega) (by omega)⟩
    · rw [if_neg (by omega), if_neg (by omega), if_neg (by omega), if_neg (by omega)]
      exact h1 x (by omega)
  · unfold zOf
    rw [swp_at (by omega) hb (by omega), if_neg (by omega), if_neg (by omega)]
    exact h2 k (by omega) (by omega)
set_option maxRecDepth 20000 in
set_option maxHeartbeats 4000000 in
theorem swapRange_any {K : Nat} (blk off cap a b n : Nat) (fv : Value) (d : Array (Fin (K + 1))) (w : World) (hH : Holds encI w blk off d) (hab : a + n ≤ b) (hb : b + n ≤ d.size) (hsz : d.size < 4611686018427387904) :
    Calls Try.prog 61 #[.slice (some ⟨blk, off, none⟩) d.size cap, .int .i64 a, .int .i64 b, .int .i64 n, fv] w fun e w' => e = .returned (.tuple #[]) ∧
      ∃ (q : Nat) (d' : Array (Fin (K + 1))), d'.size = d.size ∧ SwapO (zOf d) (zOf d') a b n ∧ w' = (putRow encI w blk off d').drewN q := by
  have HST : Hid (w = (putRow encI w blk off d).drewN 0) := (putRow_self encI w blk off d hH).symm
  have HH : Hid (Holds encI w blk off d) := hH
  clear hH
  go_enter Try.func61, Try.ntmps61
  go_wp2_with fail
  go_loopw [10] (fun v wr => ∃ (i q : Nat) (dk : Array (Fin (K + 1))), v = .int .i64 (i : Int) ∧ i ≤ n ∧ dk.size = d.size ∧ SwapO (zOf d) (zOf dk) a b i ∧ wr = (putRow encI w blk off dk).drewN q) (fun v _ => n - (intOf v).toNat)
  case atStart => exact ⟨0, 0, d, rfl, Nat.zero_le _, rfl, ⟨fun x hx => absurd hx (Nat.not_lt_zero _), fun _ _ _ => rfl⟩, HST.out⟩
  case round =>
    obtain ⟨i, q, dk, rfl, hin, hsk, hsw, rfl⟩ := hrel
    have HSW := Lib.hid hsw
    clear hsw
    by_cases hlt : i < n
    · have hHk := holds_putRow encI w blk off d dk HH.out hsk
      obtain ⟨ca, fa⟩ := hHk (a + i) (by omega)
      obtain ⟨cb, fb⟩ := hHk (b + i) (by omega)
      have HNX := Lib.hid (HSW.out.step (by omega) (by omega))
      have HSP := Lib.hid (swap_worldC encI w blk off dk q (a + i) (b + i) (by omega) (by omega))
      have HSZ := Lib.hid ((size_swp dk (a + i) (b + i)).trans hsk)
      obtain ⟨A, hA⟩ : ∃ A, a + i = A := ⟨_, rfl⟩
      obtain ⟨B, hB⟩ : ∃ B, b + i = B := ⟨_, rfl⟩
      have eA : (a : Int) + (i : Int) = (A : Int) := by omega
      have eB : (b : Int) + (i : Int) = (B : Int) := by omega
      have lA : (A : Int) < (d.size : Int) := by omega
      have lB : (B : Int) < (d.size : Int) := by omega
      rw [hA, hB] at HNX HSP HSZ
      rw [hA] at ca fa
      rw [hB] at cb fb
      have ca' : ((putRow encI w blk off dk).drewN q).cell? ⟨blk, off + A, none⟩ = some (encI dk[A]!) := ca
      have cb' : ((putRow encI w blk off dk).drewN q).cell? ⟨blk, off + B, none⟩ = some (encI dk[B]!) := cb
      have fa' : ((putRow encI w blk off dk).drewN q).frozen? ⟨blk, off + A, none⟩ = false := fa
      have fb' : ((putRow encI w blk off dk).drewN q).frozen? ⟨blk, off + B, none⟩ = false := fb
      have hAB : off + A ≠ off + B := by omega
      clear ca cb fa fb hHk HSW hA hB
      generalize swp dk A B = d2 at *
      generalize dk[A]! = xa at *
      generalize dk[B]! = xb at *
      generalize hwq : (putRow encI w blk off dk).drewN q = wq at *
      clear hwq
      go_wp2_with fail
      go_big_region
      all_goals go_wp2_with fail
      go_roundw
      case rel => exact ⟨i + 1, q + 1, d2, by go_num, by omega, HSZ.out, HNX.out, HSP.out⟩
      case measure => simp [intOf]; omega
    · obtain rfl : i = n := by omega
      go_wp2_with fail
      go_end0
      exact ⟨rfl, q, dk, hsk, HSW.out, rfl⟩
end Go.Proofs.Ytkodnagneblgaaa
