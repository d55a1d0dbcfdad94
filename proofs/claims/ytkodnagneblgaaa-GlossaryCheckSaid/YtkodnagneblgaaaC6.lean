/- Walks: the library's merge, on a row of numbers. -/
import Derived.Test.YtkodnagneblgaaaC5
import Derived.Test.YtkodnagneblgaaaB2
import Derived.Deep.QuietTactic
namespace Go.Proofs.Ytkodnagneblgaaa
open Go.RowKit Go.Sort
attribute [local go_sem ↓] Go.wp_at_zero Go.wp_at_succ
/-- the comparison of two numbers, whatever the row holds -/
def CmpAt {K : Nat} (P : Program) (g : Nat) (cb : Array Value) (cf : Fin (K + 1) → Fin (K + 1) → Int) (w0 : World) (blk off N : Nat) : Prop :=
  ∀ (d : Array (Fin (K + 1))) (q : Nat), d.size = N → ∀ x y, Calls P g (#[encI x, encI y] ++ cb) ((putRow encI w0 blk off d).drewN q) fun e w' => e = .returned (.int .i64 (cf x y)) ∧ ∃ q', w' = ((putRow encI w0 blk off d).drewN q).drewN q'
theorem CmpAt.quiet {K : Nat} {P : Program} {g : Nat} {cb : Array Value} {cf : Fin (K + 1) → Fin (K + 1) → Int} {w0 : World} {blk off N : Nat} (h : CmpAt P g cb cf w0 blk off N) (d : Array (Fin (K + 1))) (q : Nat) (hd : d.size = N) (x y : Fin (K + 1)) :
    ∀ n, Calls P g (#[encI x, encI y] ++ cb) (((putRow encI w0 blk off d).drewN q).drewN n) fun e w' => e = .returned (.int .i64 (cf x y)) ∧ ∃ q', w' = (((putRow encI w0 blk off d).drewN q).drewN n).drewN q' := fun n => by
  have := h d (q + n) hd x y
  rw [← World.drewN_drewN] at this
  exact this
theorem mid_lt {i j : Nat} (h : i < j) : i ≤ (i + j) / 2 ∧ (i + j) / 2 < j := by omega
theorem half_int (i j h : Nat) (e : (i + j) / 2 = h) : ((i : Int) + (j : Int)) / 2 = (h : Int) := by omega
theorem val_lt {K : Nat} {x y : Fin (K + 1)} (h : (x.val : Int) < (y.val : Int)) : x.val < y.val := by omega
set_option maxRecDepth 20000 in
set_option maxHeartbeats 8000000 in
theorem sym_one (K : Nat) (xb : Nat) (cf : Fin (K + 1) → Fin (K + 1) → Int) (R : Int → Int → Prop) (D : Int → Prop) (ho : Ord R D) (w0 : World) (blk off cap : Nat) (d0 : Array (Fin (K + 1)))
    (hcf : ∀ x y : Fin (K + 1), x.val < y.val → (cf y x < 0 ↔ R (y.val : Int) (x.val : Int))) (hcmp : CmpAt Try.prog 51 #[.pointer (some ⟨xb, 0, none⟩)] cf w0 blk off d0.size) (hH : Holds encI w0 blk off d0) (hsz : d0.size < 4611686018427387904) (a m b q : Nat) (d : Array (Fin (K + 1))) (hN : d.size = d0.size)
    (ham : a + 1 = m) (hmb : m < b) (hb : b ≤ d0.size) (s2 : SortO R (zOf d) m b) (hc : CrossO (zOf d) a m b) (hd : DomO D (zOf d) a b) :
    Calls Try.prog 59 #[.slice (some ⟨blk, off, none⟩) d0.size cap, .int .i64 a, .int .i64 m, .int .i64 b, .func (.func 51) #[] #[.pointer (some ⟨xb, 0, none⟩)]] ((putRow encI w0 blk off d).drewN q) fun e w' => e = .returned (.tuple #[]) ∧
      ∃ (q' : Nat) (d' : Array (Fin (K + 1))), d'.size = d0.size ∧ SortO R (zOf d') a b ∧ MemO (zOf d) (zOf d') a b ∧ SameO (zOf d) (zOf d') a b ∧ w' = (putRow encI w0 blk off d').drewN q' := by
  have HH : Hid (Holds encI w0 blk off d0) := hH
  have HC : Hid (∀ (d : Array (Fin (K + 1))) (q : Nat), d.size = d0.size → ∀ x y n, _) := fun d q hd x y n => hcmp.quiet d q hd x y n
  have HCF := Lib.hid hcf
  have HO := Lib.hid ho
  have HS2 := Lib.hid s2
  have HCR := Lib.hid hc
  have HD := Lib.hid hd
  clear hH hcmp s2 hc hd hcf ho
  have e1 : (m : Int) - (a : Int) = 1 := by omega
  have HM := Lib.hid ham
  have ham' : a < m := by omega
  clear ham
  go_enter Try.func59, Try.ntmps59
  go_wp2_with fail
  go_loopw [10, 11] (fun u v wr => ∃ (i j n : Nat), u = .int .i64 (i : Int) ∧ v = .int .i64 (j : Int) ∧ m ≤ i ∧ i ≤ j ∧ j ≤ b ∧ (i = m ∨ R (zOf d (i - 1)) (zOf d a)) ∧ (j = b ∨ ¬ R (zOf d j) (zOf d a)) ∧ wr = (putRow encI w0 blk off d).drewN n) (fun u v _ => (intOf v).toNat - (intOf u).toNat)
  case atStart => exact ⟨m, b, q, rfl, rfl, Nat.le_refl _, by omega, Nat.le_refl _, .inl rfl, .inl rfl, rfl⟩
  case round =>
    obtain ⟨i, j, n, rfl, rfl, hmi, hij, hjb, hlo, hhi, rfl⟩ := hrel
    have HLO := Lib.hid hlo
    have HHI := Lib.hid hhi
    clear hlo hhi
    by_cases hlt : i < j
    · obtain ⟨h, hh⟩ : ∃ h, (i + j) / 2 = h := ⟨_, rfl⟩
      have eh := half_int i j h hh
      have hb1 := mid_lt hlt
      rw [hh] at hb1
      obtain ⟨hb1, hb2⟩ := hb1
      have HHK := holds_putRow encI w0 blk off d0 d HH.out hN
      obtain ⟨ca, fa⟩ := HHK (a) (by omega)
      have ca' : ((putRow encI w0 blk off d).drewN n).cell? ⟨blk, off + (a), none⟩ = some (encI d[a]!) := ca
      clear ca fa
      obtain ⟨ch, fh⟩ := HHK (h) (by omega)
      have ch' : ((putRow encI w0 blk off d).drewN n).cell? ⟨blk, off + (h), none⟩ = some (encI d[h]!) := ch
      clear ch fh
      have hcl := HC.out d n hN d[h]! d[a]!
      have HIF : Hid (cf d[h]! d[a]! < 0 ↔ R (zOf d h) (zOf d a)) := HCF.out d[a]! d[h]! (val_lt (HCR.out a h (Nat.le_refl _) ham' (by omega) (by omega)))
      have HW : Hid (∀ q', ((putRow encI w0 blk off d).drewN n).drewN q' = (putRow encI w0 blk off d).drewN (n + q')) := fun q' => World.drewN_drewN _ _ _
      clear HHK hh
      generalize cf d[h]! d[a]! = cv at *
      generalize (putRow encI w0 blk off d).drewN n = wq at *
      by_cases hcv : cv < 0
      · have HR1 := Lib.hid (HIF.out.1 hcv)
        have hdc : decide (cv < 0) = true := decide_eq_true hcv
        clear HIF
        go_wp2_with fail
        go_quiet (first | (go_at_call 51; refine Calls.quiet_of (hcl _)))
        go_wp2_with fail
        go_roundw
        case rel => exact ⟨h + 1, j, n + nq, by go_num, rfl, by omega, by omega, hjb, .inr (by rw [Nat.add_sub_cancel]; exact HR1.out), HHI.out, HW.out nq⟩
        case measure => simp [intOf]; omega
      · have HR1 := Lib.hid (fun h' => hcv (HIF.out.2 h'))
        have hdc : decide (cv < 0) = false := decide_eq_false hcv
        clear HIF
        go_wp2_with fail
        go_quiet (first | (go_at_call 51; refine Calls.quiet_of (hcl _)))
        go_wp2_with fail
        go_roundw
        case rel => exact ⟨i, h, n + nq, rfl, by go_num, hmi, by omega, by omega, HLO.out, .inr HR1.out, HW.out nq⟩
        case measure => simp [intOf]; omega
    · obtain rfl : i = j := by omega
      obtain ⟨i1, rfl⟩ : ∃ i1, i = i1 + 1 := ⟨i - 1, by omega⟩
      have e3 : ((i1 + 1 : Nat) : Int) - 1 = (i1 : Int) := by omega
      have e4 : (i1 : Int) + 1 - 1 = (i1 : Int) := by omega
      go_wp2_with fail
      go_loopw [13] (fun u wr => ∃ (k n : Nat) (dk : Array (Fin (K + 1))), u = .int .i64 (k : Int) ∧ a ≤ k ∧ k ≤ i1 ∧ dk.size = d0.size ∧ RotO (zOf d) (zOf dk) a m (k + 1) ∧ wr = (putRow encI w0 blk off dk).drewN n) (fun u _ => i1 - (intOf u).toNat)
      case atStart => exact ⟨a, n, d, rfl, Nat.le_refl _, by have := HM.out; omega, hN, RotO.none (.inr HM.out.symm), rfl⟩
      case round =>
        obtain ⟨k, n, dk, rfl, hak, hki, hsk, hrot, rfl⟩ := hrel
        have HROT := Lib.hid hrot
        clear hrot
        by_cases hlt2 : k < i1
        · have HNX : Hid (RotO (zOf d) (zOf (swp dk k (k + 1))) a m (k + 2)) := HM.out ▸ (HM.out ▸ HROT.out : RotO (zOf d) (zOf dk) a (a + 1) (k + 1)).grow hak
            (by unfold zOf; rw [swp_at (by omega) (by omega) (by omega), if_pos rfl]) (by unfold zOf; rw [swp_at (by omega) (by omega) (by omega), if_neg (by omega), if_pos rfl])
            (fun i h1 h2 => by unfold zOf; rw [swp_at (by omega) (by omega) (by omega), if_neg h1, if_neg h2])
          obtain ⟨k1, hk1⟩ : ∃ k1, k + 1 = k1 := ⟨_, rfl⟩
          have e5 : (k : Int) + 1 = (k1 : Int) := by omega
          have lA : (k : Int) < (d0.size : Int) := by omega
          have lB : (k1 : Int) < (d0.size : Int) := by omega
          rw [show k + 2 = k1 + 1 by omega, hk1] at HNX
          have HHK := holds_putRow encI w0 blk off d0 dk HH.out hsk
          obtain ⟨ca, fa⟩ := HHK k (by omega)
          obtain ⟨cb, fb⟩ := HHK k1 (by omega)
          have HSP := Lib.hid (swap_worldC encI w0 blk off dk n k k1 (by omega) (by omega))
          have HSZ := Lib.hid ((size_swp dk k k1).trans hsk)
          have ca' : ((putRow encI w0 blk off dk).drewN n).cell? ⟨blk, off + k, none⟩ = some (encI dk[k]!) := ca
          have cb' : ((putRow encI w0 blk off dk).drewN n).cell? ⟨blk, off + k1, none⟩ = some (encI dk[k1]!) := cb
          have fa' : ((putRow encI w0 blk off dk).drewN n).frozen? ⟨blk, off + k, none⟩ = false := fa
          have fb' : ((putRow encI w0 blk off dk).drewN n).frozen? ⟨blk, off + k1, none⟩ = false := fb
          have hAB : off + k ≠ off + k1 := by omega
          clear ca cb fa fb HHK
          generalize swp dk k k1 = d2 at *
          generalize dk[k]! = xa at *
          generalize dk[k1]! = xb' at *
          generalize hwq : (putRow encI w0 blk off dk).drewN n = wq at *
          clear hwq
          go_wp2_with fail
          go_big_region
          all_goals go_wp2_with fail
          go_roundw
          case rel => exact ⟨k1, n + 1, d2, by go_num, by omega, by omega, HSZ.out, HNX.out, HSP.out⟩
          case measure => simp [intOf]; omega
        · obtain rfl : k = i1 := by omega
          have HFIN : Hid (SortO R (zOf dk) a b ∧ MemO (zOf d) (zOf dk) a b ∧ SameO (zOf d) (zOf dk) a b) := by
            have hm := HM.out
            subst hm
            exact merge_left HO.out hmi hjb HS2.out HCR.out HD.out HLO.out HHI.out HROT.out
          go_wp2_with fail
          ((try simp only [Exit.inBlock, Exit.then]); refine bodyPost_ret (results_none rfl _ _ _) rfl ?_)
          exact ⟨rfl, n, dk, hsk, HFIN.out.1, HFIN.out.2.1, HFIN.out.2.2, rfl⟩
set_option maxRecDepth 20000 in
set_option maxHeartbeats 8000000 in
theorem sym_last (K : Nat) (xb : Nat) (cf : Fin (K + 1) → Fin (K + 1) → Int) (R : Int → Int → Prop) (D : Int → Prop) (ho : Ord R D) (w0 : World) (blk off cap : Nat) (d0 : Array (Fin (K + 1)))
    (hcf : ∀ x y : Fin (K + 1), x.val < y.val → (cf y x < 0 ↔ R (y.val : Int) (x.val : Int))) (hcmp : CmpAt Try.prog 51 #[.pointer (some ⟨xb, 0, none⟩)] cf w0 blk off d0.size) (hH : Holds encI w0 blk off d0) (hsz : d0.size < 4611686018427387904) (a m b q : Nat) (d : Array (Fin (K + 1))) (hN : d.size = d0.size)
    (ham : a + 1 < m) (hmb : m + 1 = b) (hb : b ≤ d0.size) (s1 : SortO R (zOf d) a m) (hc : CrossO (zOf d) a m b) (hd : DomO D (zOf d) a b) :
    Calls Try.prog 59 #[.slice (some ⟨blk, off, none⟩) d0.size cap, .int .i64 a, .int .i64 m, .int .i64 b, .func (.func 51) #[] #[.pointer (some ⟨xb, 0, none⟩)]] ((putRow encI w0 blk off d).drewN q) fun e w' => e = .returned (.tuple #[]) ∧
      ∃ (q' : Nat) (d' : Array (Fin (K + 1))), d'.size = d0.size ∧ SortO R (zOf d') a b ∧ MemO (zOf d) (zOf d') a b ∧ SameO (zOf d) (zOf d') a b ∧ w' = (putRow encI w0 blk off d').drewN q' := by
  have HH : Hid (Holds encI w0 blk off d0) := hH
  have HC : Hid (∀ (d : Array (Fin (K + 1))) (q : Nat), d.size = d0.size → ∀ x y n, _) := fun d q hd x y n => hcmp.quiet d q hd x y n
  have HCF := Lib.hid hcf
  have HO := Lib.hid ho
  have HS1 := Lib.hid s1
  have HCR := Lib.hid hc
  have HD := Lib.hid hd
  clear hH hcmp s1 hc hd hcf ho
  have e1 : ((m : Int) - (a : Int) == 1) = false := by rw [beq_eq_false_iff_ne]; omega
  have e2 : (b : Int) - (m : Int) = 1 := by omega
  have HM := Lib.hid hmb
  have hmb' : m < b := by omega
  clear hmb
  go_enter Try.func59, Try.ntmps59
  go_wp2_with fail
  go_loopw [14, 15] (fun u v wr => ∃ (i j n : Nat), u = .int .i64 (i : Int) ∧ v = .int .i64 (j : Int) ∧ a ≤ i ∧ i ≤ j ∧ j ≤ m ∧ (i = a ∨ ¬ R (zOf d m) (zOf d (i - 1))) ∧ (j = m ∨ R (zOf d m) (zOf d j)) ∧ wr = (putRow encI w0 blk off d).drewN n) (fun u v _ => (intOf v).toNat - (intOf u).toNat)
  case atStart => exact ⟨a, m, q, rfl, rfl, Nat.le_refl _, by omega, Nat.le_refl _, .inl rfl, .inl rfl, rfl⟩
  case round =>
    obtain ⟨i, j, n, rfl, rfl, hai, hij, hjm, hlo, hhi, rfl⟩ := hrel
    have HLO := Lib.hid hlo
    have HHI := Lib.hid hhi
    clear hlo hhi
    by_cases hlt : i < j
    · obtain ⟨h, hh⟩ : ∃ h, (i + j) / 2 = h := ⟨_, rfl⟩
      have eh := half_int i j h hh
      have hb1 := mid_lt hlt
      rw [hh] at hb1
      obtain ⟨hb1, hb2⟩ := hb1
      have HHK := holds_putRow encI w0 blk off d0 d HH.out hN
      obtain ⟨ca, fa⟩ := HHK (m) (by omega)
      have ca' : ((putRow encI w0 blk off d).drewN n).cell? ⟨blk, off + (m), none⟩ = some (encI d[m]!) := ca
      clear ca fa
      obtain ⟨ch, fh⟩ := HHK (h) (by omega)
      have ch' : ((putRow encI w0 blk off d).drewN n).cell? ⟨blk, off + (h), none⟩ = some (encI d[h]!) := ch
      clear ch fh
      have hcl := HC.out d n hN d[m]! d[h]!
      have HIF : Hid (cf d[m]! d[h]! < 0 ↔ R (zOf d m) (zOf d h)) := HCF.out d[h]! d[m]! (val_lt (HCR.out h m (by omega) (by omega) (Nat.le_refl _) (by omega)))
      have HW : Hid (∀ q', ((putRow encI w0 blk off d).drewN n).drewN q' = (putRow encI w0 blk off d).drewN (n + q')) := fun q' => World.drewN_drewN _ _ _
      clear HHK hh
      generalize cf d[m]! d[h]! = cv at *
      generalize (putRow encI w0 blk off d).drewN n = wq at *
      by_cases hcv : cv < 0
      · have HR1 := Lib.hid (HIF.out.1 hcv)
        have hdc : decide (cv < 0) = true := decide_eq_true hcv
        clear HIF
        go_wp2_with fail
        go_quiet (first | (go_at_call 51; refine Calls.quiet_of (hcl _)))
        go_wp2_with fail
        go_roundw
        case rel => exact ⟨i, h, n + nq, rfl, by go_num, hai, by omega, by omega, HLO.out, .inr HR1.out, HW.out nq⟩
        case measure => simp [intOf]; omega
      · have HR1 := Lib.hid (fun h' => hcv (HIF.out.2 h'))
        have hdc : decide (cv < 0) = false := decide_eq_false hcv
        clear HIF
        go_wp2_with fail
        go_quiet (first | (go_at_call 51; refine Calls.quiet_of (hcl _)))
        go_wp2_with fail
        go_roundw
        case rel => exact ⟨h + 1, j, n + nq, by go_num, rfl, by omega, by omega, hjm, .inr (by rw [Nat.add_sub_cancel]; exact HR1.out), HHI.out, HW.out nq⟩
        case measure => simp [intOf]; omega
    · obtain rfl : i = j := by omega
      go_wp2_with fail
      go_loopw [17] (fun u wr => ∃ (k n : Nat) (dk : Array (Fin (K + 1))), u = .int .i64 (k : Int) ∧ i ≤ k ∧ k ≤ m ∧ dk.size = d0.size ∧ RotO (zOf d) (zOf dk) k m b ∧ wr = (putRow encI w0 blk off dk).drewN n) (fun u _ => (intOf u).toNat)
      case atStart => exact ⟨m, n, d, rfl, by omega, Nat.le_refl _, hN, RotO.none (.inl rfl), rfl⟩
      case round =>
        obtain ⟨k, n, dk, rfl, hik, hkm, hsk, hrot, rfl⟩ := hrel
        have HROT := Lib.hid hrot
        clear hrot
        by_cases hlt2 : i < k
        · obtain ⟨k1, rfl⟩ : ∃ k1, k = k1 + 1 := ⟨k - 1, by omega⟩
          have HNX : Hid (RotO (zOf d) (zOf (swp dk (k1 + 1) k1)) k1 m b) := HM.out ▸ (HM.out ▸ HROT.out : RotO (zOf d) (zOf dk) (k1 + 1) m (m + 1)).back (by omega)
            (by unfold zOf; rw [swp_at (by omega) (by omega) (by omega), if_neg (by omega), if_pos rfl]) (by unfold zOf; rw [swp_at (by omega) (by omega) (by omega), if_pos rfl])
            (fun i h1 h2 => by unfold zOf; rw [swp_at (by omega) (by omega) (by omega), if_neg h2, if_neg h1])
          obtain ⟨k, hk1⟩ : ∃ k, k1 + 1 = k := ⟨_, rfl⟩
          have e5 : (k : Int) - 1 = (k1 : Int) := by omega
          have lA : (k : Int) < (d0.size : Int) := by omega
          have lB : (k1 : Int) < (d0.size : Int) := by omega
          have e6 : (i : Int) < (k : Int) := by omega
          rw [hk1] at HNX hik hkm
          rw [hk1]
          clear HROT
          have HHK := holds_putRow encI w0 blk off d0 dk HH.out hsk
          obtain ⟨ca, fa⟩ := HHK k (by omega)
          obtain ⟨cb, fb⟩ := HHK k1 (by omega)
          have HSP := Lib.hid (swap_worldC encI w0 blk off dk n k k1 (by omega) (by omega))
          have HSZ := Lib.hid ((size_swp dk k k1).trans hsk)
          have ca' : ((putRow encI w0 blk off dk).drewN n).cell? ⟨blk, off + k, none⟩ = some (encI dk[k]!) := ca
          have cb' : ((putRow encI w0 blk off dk).drewN n).cell? ⟨blk, off + k1, none⟩ = some (encI dk[k1]!) := cb
          have fa' : ((putRow encI w0 blk off dk).drewN n).frozen? ⟨blk, off + k, none⟩ = false := fa
          have fb' : ((putRow encI w0 blk off dk).drewN n).frozen? ⟨blk, off + k1, none⟩ = false := fb
          have hAB : off + k ≠ off + k1 := by omega
          clear ca cb fa fb HHK
          generalize swp dk k k1 = d2 at *
          generalize dk[k]! = xa at *
          generalize dk[k1]! = xb' at *
          generalize hwq : (putRow encI w0 blk off dk).drewN n = wq at *
          clear hwq
          go_wp2_with fail
          go_big_region
          all_goals go_wp2_with fail
          go_roundw
          case rel => exact ⟨k1, n + 1, d2, by go_num, by omega, by omega, HSZ.out, HNX.out, HSP.out⟩
          case measure => simp [intOf]; omega
        · obtain rfl : k = i := by omega
          have HFIN : Hid (SortO R (zOf dk) a b ∧ MemO (zOf d) (zOf dk) a b ∧ SameO (zOf d) (zOf dk) a b) := by
            have hm := HM.out
            subst hm
            exact merge_right HO.out hai hjm HS1.out HCR.out HD.out HLO.out HHI.out HROT.out
          go_wp2_with fail
          ((try simp only [Exit.inBlock, Exit.then]); refine bodyPost_ret (results_none rfl _ _ _) rfl ?_)
          exact ⟨rfl, n, dk, hsk, HFIN.out.1, HFIN.out.2.1, HFIN.out.2.2, rfl⟩
end Go.Proofs.Ytkodnagneblgaaa
