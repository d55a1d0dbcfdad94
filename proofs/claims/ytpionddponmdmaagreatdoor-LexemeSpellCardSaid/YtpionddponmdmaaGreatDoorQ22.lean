/- Walks: the reference's digits, In, Point and One. -/
import Derived.Test.YtpionddponmdmaaGreatDoorQ20
namespace Go.Proofs.YtpionddponmdmaaGreatDoor
open Go.RowKit
attribute [local go_sem] Ext.cell Ext.frozen
attribute [local go_sem ↓] Go.wp_at_zero Go.wp_at_succ
def digI (c : UInt8) : Int := match hexV c with
  | some d => (d : Int)
  | none => -1
theorem hexV_lt {c : UInt8} {d : Nat} (h : hexV c = some d) : d < 16 := by
  rcases hex_cases c with ⟨h1, _, _⟩ | ⟨e, h1, h2, _, _⟩ | ⟨e, h1, h2, _⟩
  · rw [h] at h1; cases h1
  · rw [h] at h2; injection h2 with h2; omega
  · rw [h] at h2; injection h2 with h2; omega
def numI (l : List UInt8) : Int := match numV l with
  | some n => (n : Int)
  | none => -1
theorem u8_eq_int (a b : UInt8) : ((a.toNat : Int) == (b.toNat : Int)) = decide (a = b) := by
  by_cases h : a = b
  · subst h; rw [decide_eq_true rfl, beq_self_eq_true]
  · rw [decide_eq_false h, beq_eq_false_iff_ne]
    exact fun e => h (UInt8.toNat_inj.1 (by omega))
theorem mem_take_succ {l : List UInt8} {k : Nat} {c : UInt8} (h : k < l.length) (h1 : c ∉ l.take k) (h2 : l.getD k 0 ≠ c) : c ∉ l.take (k + 1) := by
  rw [List.take_succ_eq_append_getElem h]
  intro hm
  rcases List.mem_append.1 hm with hm | hm
  · exact h1 hm
  · apply h2
    rw [List.mem_singleton.1 hm]
    simp [List.getD, List.getElem?_eq_getElem h]
theorem getD_mem8 {l : List UInt8} {k : Nat} (h : k < l.length) : l.getD k 0 ∈ l := by simp [List.getD, List.getElem?_eq_getElem h]
set_option maxRecDepth 20000 in
set_option maxHeartbeats 4000000 in
theorem rin_any (c : UInt8) (l : List UInt8) (hl : l.length ≤ 1000) (w : World) :
    Calls Tryz.prog 53 #[.int .u8 (c.toNat : Int), .string (bs l)] w fun e w' => e = .returned (.bool (decide (c ∈ l))) ∧ w = w' := by
  have hsz : (bs l).size = l.length := bs_size l
  have HSZ := Lib.hid hsz
  have hle : (bs l).size ≤ 1000 := by omega
  have HAT : Hid (∀ (i : Nat) (g : i < (bs l).size), (bs l)[i]'g = l.getD i 0) := fun i g => ba_at l g
  generalize hS : bs l = S at *
  clear hS hsz
  go_enter Tryz.func53, Tryz.ntmps53
  go_wp2_with fail
  go_loopw [5] (fun i wr => ∃ k : Nat, k ≤ l.length ∧ i = .int .i64 (k : Int) ∧ c ∉ l.take k ∧ w = wr) (fun i _ => l.length - (intOf i).toNat)
  case atStart => exact ⟨0, Nat.zero_le _, rfl, by simp, rfl⟩
  case round =>
    obtain ⟨k, hk, rfl, hno, rfl⟩ := hrel
    have HNO := Lib.hid hno
    clear hno
    by_cases hlt : k < l.length
    · have hks : k < S.size := by rw [HSZ.out]; exact hlt
      have hix : ∀ g : k < S.size, S[k]'g = l.getD k 0 := fun g => HAT.out k g
      have HNX := Lib.hid (fun h => mem_take_succ hlt HNO.out h)
      have HMM := Lib.hid (getD_mem8 hlt)
      generalize l.getD k 0 = d at *
      have hq := u8_eq_int d c
      by_cases e : d = c
      · rw [decide_eq_true e] at hq
        have HR : Hid (decide (c ∈ l) = true) := decide_eq_true (by rw [← e]; exact HMM.out)
        clear HNX HMM e
        go_wp2_with fail
        go_ret
        exact ⟨by rw [HR.out]; rfl, rfl⟩
      · rw [decide_eq_false e] at hq
        have HNY := Lib.hid (HNX.out e)
        clear HNX HMM e
        go_wp2_with fail
        go_roundw
        case rel => exact ⟨k + 1, hlt, by go_num, HNY.out, trivial⟩
        case measure => simp [intOf]; omega
    · obtain rfl : k = l.length := by omega
      have hks : ¬ l.length < S.size := by rw [HSZ.out]; omega
      have HR : Hid (decide (c ∈ l) = false) := decide_eq_false (by have := HNO.out; rwa [List.take_length] at this)
      go_wp2_with fail
      go_ret
      exact ⟨by rw [HR.out]; rfl, rfl⟩
set_option maxRecDepth 20000 in
theorem rpoint_any (n : Nat) (hn : n ≤ 65535) (w : World) : Calls Tryz.prog 65 #[.int .i64 (n : Int)] w fun e w' => e = .returned (.bool (pointB n)) ∧ w = w' := by
  have g0 : (0 : Int) ≤ (n : Int) := by omega
  have g00 : (n : Int) ≤ 1114111 := by omega
  rcases (by omega : n < 55296 ∨ (¬ n < 55296 ∧ 57343 < n) ∨ (¬ n < 55296 ∧ ¬ 57343 < n)) with h1 | ⟨h1, h2⟩ | ⟨h1, h2⟩
  · have g1 : (n : Int) < 55296 := by omega
    have HE : Hid (pointB n = true) := by unfold Hid pointB; rw [decide_eq_true h1]; rfl
    go_enter Tryz.func65, Tryz.ntmps65
    go_wp2_with fail
    go_ret
    exact ⟨by rw [HE.out]; rfl, rfl⟩
  · have g1 : ¬ (n : Int) < 55296 := by omega
    have g2 : 57343 < (n : Int) := by omega
    have HE : Hid (pointB n = true) := by unfold Hid pointB; rw [decide_eq_true h2, Bool.or_true]
    go_enter Tryz.func65, Tryz.ntmps65
    go_wp2_with fail
    go_ret
    exact ⟨by rw [HE.out]; rfl, rfl⟩
  · have g1 : ¬ (n : Int) < 55296 := by omega
    have g2 : ¬ 57343 < (n : Int) := by omega
    have HE : Hid (pointB n = false) := by unfold Hid pointB; rw [decide_eq_false h1, decide_eq_false h2]; rfl
    go_enter Tryz.func65, Tryz.ntmps65
    go_wp2_with fail
    go_ret
    exact ⟨by rw [HE.out]; rfl, rfl⟩
end Go.Proofs.YtpionddponmdmaaGreatDoor
/- Walks: the reference's One. -/
namespace Go.Proofs.YtpionddponmdmaaGreatDoor
open Go.RowKit
attribute [local go_sem] Ext.cell Ext.frozen
attribute [local go_sem ↓] Go.wp_at_zero Go.wp_at_succ
theorem conv2H (y z : Int) (b c : UInt8) (hy : y = (b.toNat : Int)) (hz : z = (c.toNat : Int)) (W : World) :
    (convert 59 9 (.slice (some ⟨W.heap.size, 0, none⟩) 2 2)).run Tryz.prog (W.alloc (.cells #[.int .u8 y, .int .u8 z] 5)) = .ok (.string (bs [b, c])) (W.alloc (.cells #[.int .u8 y, .int .u8 z] 5)) := by
  refine run_convert_bytes_back _ 59 9 5 ⟨W.heap.size, 0, none⟩ 2 [b, c] Tryz.underlying59 Tryz.underlying5 Tryz.underlying9 ?_
  intro j hj
  subst hy hz
  match j, hj with
  | 0, _ => simp [go_sem, Addr.add]
  | 1, _ => simp [go_sem, Addr.add]
  | j + 2, hj => exact absurd (show j + 2 < 2 from hj) (by omega)
theorem conv3H (x y z : Int) (a b c : UInt8) (hx : x = (a.toNat : Int)) (hy : y = (b.toNat : Int)) (hz : z = (c.toNat : Int)) (W : World) :
    (convert 59 9 (.slice (some ⟨W.heap.size, 0, none⟩) 3 3)).run Tryz.prog (W.alloc (.cells #[.int .u8 x, .int .u8 y, .int .u8 z] 5)) = .ok (.string (bs [a, b, c])) (W.alloc (.cells #[.int .u8 x, .int .u8 y, .int .u8 z] 5)) := by
  refine run_convert_bytes_back _ 59 9 5 ⟨W.heap.size, 0, none⟩ 3 [a, b, c] Tryz.underlying59 Tryz.underlying5 Tryz.underlying9 ?_
  intro j hj
  subst hx hy hz
  match j, hj with
  | 0, _ => simp [go_sem, Addr.add]
  | 1, _ => simp [go_sem, Addr.add]
  | 2, _ => simp [go_sem, Addr.add]
  | j + 3, hj => exact absurd (show j + 3 < 3 from hj) (by omega)
theorem u8_of {k : Nat} (h : k < 256) : ((UInt8.ofNat k).toNat : Int) = (k : Int) := by rw [UInt8.toNat_ofNat_of_lt' (by simpa using h)]
theorem u8_ex (k : Nat) (h : k < 256) : ∃ A : UInt8, UInt8.ofNat k = A ∧ (A.toNat : Int) = (k : Int) := ⟨_, rfl, u8_of h⟩
set_option maxRecDepth 20000 in
set_option maxHeartbeats 4000000 in
theorem rone_any (n : Nat) (hn : n ≤ 65535) (w : World) : Calls Tryz.prog 66 #[.int .i64 (n : Int)] w fun e w' => e = .returned (.string (bs (oneV n))) ∧ Below w.heap.size w w' := by
  by_cases h1 : n ≤ 127
  · have g1 : (n : Int) < 128 := by omega
    have HE : Hid (oneV n = [UInt8.ofNat n]) := by unfold Hid oneV; rw [if_pos h1]
    have hcv := convH (n : Int) (UInt8.ofNat n) (u8_of (by omega)).symm
    go_enter Tryz.func66, Tryz.ntmps66
    go_wp2_with fail
    go_ret
    exact ⟨by rw [HE.out]; rfl, (Below.refl _ _).alloc (Nat.le_refl _) _⟩
  · have g1 : ¬ (n : Int) < 128 := by omega
    by_cases h2 : n ≤ 2047
    · have g2 : (n : Int) < 2048 := by omega
      have HE : Hid (oneV n = [UInt8.ofNat (192 + n / 64), UInt8.ofNat (128 + n % 64)]) := by unfold Hid oneV; rw [if_neg h1, if_pos h2]
      obtain ⟨A, ha, ha2⟩ := u8_ex (192 + n / 64) (by omega)
      obtain ⟨B, hb, hb2⟩ := u8_ex (128 + n % 64) (by omega)
      rw [ha, hb] at HE
      have hcv := conv2H (192 + (n : Int) / 64) (128 + (n : Int) % 64) A B (by omega) (by omega)
      clear ha ha2 hb hb2
      go_enter Tryz.func66, Tryz.ntmps66
      go_wp2_with fail
      go_ret
      exact ⟨by rw [HE.out]; rfl, (Below.refl _ _).alloc (Nat.le_refl _) _⟩
    · have g2 : ¬ (n : Int) < 2048 := by omega
      have g3 : (n : Int) < 65536 := by omega
      have HE : Hid (oneV n = [UInt8.ofNat (224 + n / 4096), UInt8.ofNat (128 + n / 64 % 64), UInt8.ofNat (128 + n % 64)]) := by unfold Hid oneV; rw [if_neg h1, if_neg h2]
      obtain ⟨A, ha, ha2⟩ := u8_ex (224 + n / 4096) (by omega)
      obtain ⟨B, hb, hb2⟩ := u8_ex (128 + n / 64 % 64) (by omega)
      obtain ⟨C, hc, hc2⟩ := u8_ex (128 + n % 64) (by omega)
      rw [ha, hb, hc] at HE
      have hcv := conv3H (224 + (n : Int) / 4096) (128 + (n : Int) / 64 % 64) (128 + (n : Int) % 64) A B C (by omega) (by omega) (by omega)
      clear ha ha2 hb hb2 hc hc2
      go_enter Tryz.func66, Tryz.ntmps66
      go_wp2_with fail
      go_ret
      exact ⟨by rw [HE.out]; rfl, (Below.refl _ _).alloc (Nat.le_refl _) _⟩
end Go.Proofs.YtpionddponmdmaaGreatDoor
