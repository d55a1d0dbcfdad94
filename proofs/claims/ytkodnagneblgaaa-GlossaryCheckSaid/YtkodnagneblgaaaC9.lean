/- Walks: the library's insertion sort, on a row of numbers that rise. -/
import Derived.Test.YtkodnagneblgaaaC6
namespace Go.Proofs.Ytkodnagneblgaaa
open Go.RowKit Go.Sort
attribute [local go_sem ↓] Go.wp_at_zero Go.wp_at_succ
/-- rising numbers -/
def RiseO (z : Nat → Int) (a b : Nat) : Prop := ∀ i j, a ≤ i → i < j → j < b → z i < z j
theorem MemO.empty {z z' : Nat → Int} {a b : Nat} (h : b ≤ a) : MemO z z' a b := ⟨fun i i1 i2 => by omega, fun i i1 i2 => by omega⟩
theorem cross_next {z z' : Nat → Int} {a i b : Nat} (h : RiseO z a b) (hm : MemO z z' a i) (hs : SameO z z' a i) (hi : i < b) : CrossO z' a i (i + 1) := fun x y x1 x2 y1 y2 => by
  obtain rfl : y = i := by omega
  obtain ⟨j, j1, j2, e⟩ := hm.1 x x1 x2
  rw [e, hs y (.inr (Nat.le_refl _))]
  exact h j y j1 (by omega) hi
theorem sort_next {R : Int → Int → Prop} {D : Int → Prop} (ho : Ord R D) {z zi zk : Nat → Int} {a i j b : Nat} (hr : RiseO z a b) (hd : DomO D z a b) (hib : i < b) (hs : SortO R zi a i) (hm : MemO z zi a i) (he : SameO z zi a i) (haj : a ≤ j) (hji : j ≤ i)
    (hrot : RotO zi zk j i (i + 1)) (h1 : j = a ∨ ¬ R (zi i) (zi (j - 1))) (h2 : j = i ∨ R (zi i) (zi j)) : SortO R zk a (i + 1) ∧ MemO z zk a (i + 1) ∧ SameO z zk a (i + 1) := by
  have hmi : MemO z zi a (i + 1) := hm.widen he (Nat.le_refl _) (by omega)
  have hei : SameO z zi a (i + 1) := he.widen (Nat.le_refl _) (by omega)
  have hd0 : DomO D z a (i + 1) := fun x x1 x2 => hd x x1 (by omega)
  have hdi : DomO D zi a (i + 1) := hd0.mem hmi
  have := merge_right ho haj hji hs (cross_next hr hm he hib) hdi h1 h2 hrot
  exact ⟨this.1, hmi.trans this.2.1, hei.trans this.2.2⟩
set_option maxRecDepth 20000 in
set_option maxHeartbeats 8000000 in
theorem ins_any (K : Nat) (xb : Nat) (cf : Fin (K + 1) → Fin (K + 1) → Int) (R : Int → Int → Prop) (D : Int → Prop) (ho : Ord R D) (w0 : World) (blk off cap : Nat) (d0 : Array (Fin (K + 1)))
    (hcf : ∀ x y : Fin (K + 1), x.val < y.val → (cf y x < 0 ↔ R (y.val : Int) (x.val : Int))) (hcmp : CmpAt Try.prog 51 #[.pointer (some ⟨xb, 0, none⟩)] cf w0 blk off d0.size) (hH : Holds encI w0 blk off d0) (hsz : d0.size < 4611686018427387904) (a b q : Nat) (d : Array (Fin (K + 1))) (hN : d.size = d0.size)
    (hab : a ≤ b) (hb : b ≤ d0.size) (hr : RiseO (zOf d) a b) (hd : DomO D (zOf d) a b) :
    Calls Try.prog 58 #[.slice (some ⟨blk, off, none⟩) d0.size cap, .int .i64 a, .int .i64 b, .func (.func 51) #[] #[.pointer (some ⟨xb, 0, none⟩)]] ((putRow encI w0 blk off d).drewN q) fun e w' => e = .returned (.tuple #[]) ∧
      ∃ (q' : Nat) (d' : Array (Fin (K + 1))), d'.size = d0.size ∧ SortO R (zOf d') a b ∧ MemO (zOf d) (zOf d') a b ∧ SameO (zOf d) (zOf d') a b ∧ w' = (putRow encI w0 blk off d').drewN q' := by
  have HH : Hid (Holds encI w0 blk off d0) := hH
  have HC : Hid (∀ (d : Array (Fin (K + 1))) (q : Nat), d.size = d0.size → ∀ x y n, _) := fun d q hd x y n => hcmp.quiet d q hd x y n
  have HCF := Lib.hid hcf
  have HO := Lib.hid ho
  have HR := Lib.hid hr
  have HD := Lib.hid hd
  clear hH hcmp hr hd hcf ho
  go_enter Try.func58, Try.ntmps58
  go_wp2_with fail
  go_loopw [8] (fun u wr => ∃ (i n : Nat) (dk : Array (Fin (K + 1))), u = .int .i64 (i : Int) ∧ a < i ∧ (i ≤ b ∨ i = a + 1) ∧ dk.size = d0.size ∧ SortO R (zOf dk) a i ∧ MemO (zOf d) (zOf dk) a i ∧ SameO (zOf d) (zOf dk) a i ∧ wr = (putRow encI w0 blk off dk).drewN n) (fun u _ => b - (intOf u).toNat)
  case atStart => exact ⟨a + 1, q, d, by go_num, by omega, .inr rfl, hN, SortO.short (Nat.le_refl _), MemO.refl _ _ _, SameO.refl _ _ _, rfl⟩
  case round =>
    obtain ⟨i, n, di, rfl, hai, hib, hsi, hs, hm, he, rfl⟩ := hrel
    have HS := Lib.hid hs
    have HM := Lib.hid hm
    have HE := Lib.hid he
    clear hs hm he
    by_cases hlt : i < b
    · have HNX : Hid (∀ (j : Nat) (dk : Array (Fin (K + 1))), a ≤ j → j ≤ i → RotO (zOf di) (zOf dk) j i (i + 1) → (j = a ∨ ¬ R (zOf di i) (zOf di (j - 1))) → (j = i ∨ R (zOf di i) (zOf di j)) → SortO R (zOf dk) a (i + 1) ∧ MemO (zOf d) (zOf dk) a (i + 1) ∧ SameO (zOf d) (zOf dk) a (i + 1)) :=
        fun j dk h1 h2 h3 h4 h5 => sort_next HO.out HR.out HD.out hlt HS.out HM.out HE.out h1 h2 h3 h4 h5
      have HCX := Lib.hid (cross_next HR.out HM.out HE.out hlt)
      go_wp2_with fail
      go_loopw [9] (fun u wr => ∃ (j n : Nat) (dk : Array (Fin (K + 1))), u = .int .i64 (j : Int) ∧ a ≤ j ∧ j ≤ i ∧ dk.size = d0.size ∧ RotO (zOf di) (zOf dk) j i (i + 1) ∧ (j = i ∨ R (zOf di i) (zOf di j)) ∧ wr = (putRow encI w0 blk off dk).drewN n) (fun u _ => (intOf u).toNat)
      case atStart => exact ⟨i, n, di, rfl, by omega, Nat.le_refl _, hsi, RotO.none (.inl rfl), .inl rfl, rfl⟩
      case round =>
        obtain ⟨j, n, dk, rfl, haj, hji, hsk, hrot, hin, rfl⟩ := hrel
        have HROT := Lib.hid hrot
        have HIN := Lib.hid hin
        clear hrot hin
        by_cases hja : a < j
        · obtain ⟨j1, hj1⟩ : ∃ j1, j1 + 1 = j := ⟨j - 1, by omega⟩
          have e5 : (j : Int) - 1 = (j1 : Int) := by omega
          have HHK := holds_putRow encI w0 blk off d0 dk HH.out hsk
          obtain ⟨ca, fa⟩ := HHK j (by omega)
          obtain ⟨cb, fb⟩ := HHK j1 (by omega)
          have HSP := Lib.hid (swap_worldC encI w0 blk off dk (n + 0) j j1 (by omega) (by omega))
          have HSZ := Lib.hid ((size_swp dk j j1).trans hsk)
          have ca' : ((putRow encI w0 blk off dk).drewN n).cell? ⟨blk, off + j, none⟩ = some (encI dk[j]!) := ca
          have cb' : ((putRow encI w0 blk off dk).drewN n).cell? ⟨blk, off + j1, none⟩ = some (encI dk[j1]!) := cb
          have hcl := HC.out dk n hsk dk[j]! dk[j1]!
          have zj : zOf dk j = zOf di i := by
            have := HROT.out.1 0 (by omega)
            simpa using this
          have zj1 : zOf dk j1 = zOf di j1 := HROT.out.2.2 j1 (.inl (by omega))
          have HIF : Hid (cf dk[j]! dk[j1]! < 0 ↔ R (zOf di i) (zOf di j1)) := by
            have := HCF.out dk[j1]! dk[j]! (val_lt (by show zOf dk j1 < zOf dk j; rw [zj, zj1]; exact HCX.out j1 i (by omega) (by omega) (Nat.le_refl _) (by omega)))
            rw [Hid, ← zj, ← zj1]
            exact this
          have HNR : Hid (RotO (zOf di) (zOf (swp dk j j1)) j1 i (i + 1)) := (hj1 ▸ HROT.out : RotO (zOf di) (zOf dk) (j1 + 1) i (i + 1)).back (by omega)
            (by unfold zOf; rw [swp_at (by omega) (by omega) (by omega), if_neg (by omega), if_pos rfl, hj1]) (by unfold zOf; rw [swp_at (by omega) (by omega) (by omega), hj1, if_pos rfl])
            (fun x h1 h2 => by unfold zOf; rw [swp_at (by omega) (by omega) (by omega), if_neg (by omega), if_neg h1])
          have lA : (j : Int) < (d0.size : Int) := by omega
          have lB : (j1 : Int) < (d0.size : Int) := by omega
          have hAB : off + j ≠ off + j1 := by omega
          have kja : (a : Int) < (j : Int) := by omega
          have dja : decide ((a : Int) < (j : Int)) = true := decide_eq_true kja
          have HW : Hid (∀ q', ((putRow encI w0 blk off dk).drewN n).drewN q' = (putRow encI w0 blk off dk).drewN (n + q')) := fun q' => World.drewN_drewN _ _ _
          have HNJ := Lib.hid (HNX.out j dk haj hji HROT.out)
          have HJ1 : Hid (j - 1 = j1) := by unfold Hid; omega
          have HFA : Hid (∀ q', ((putRow encI w0 blk off dk).drewN (n + q')).frozen? ⟨blk, off + j, none⟩ = false ∧ ((putRow encI w0 blk off dk).drewN (n + q')).frozen? ⟨blk, off + j1, none⟩ = false ∧ ((putRow encI w0 blk off dk).drewN (n + q')).cell? ⟨blk, off + j, none⟩ = some (encI dk[j]!) ∧ ((putRow encI w0 blk off dk).drewN (n + q')).cell? ⟨blk, off + j1, none⟩ = some (encI dk[j1]!)) := fun q' => ⟨fa, fb, ca, cb⟩
          have HSP2 : Hid (∀ q', ((((putRow encI w0 blk off dk).drewN (n + q')).setCell ⟨blk, off + j, none⟩ (encI dk[j1]!)).setCell ⟨blk, off + j1, none⟩ (encI dk[j]!)).drew = (putRow encI w0 blk off (swp dk j j1)).drewN (n + q' + 1)) := fun q' => swap_worldC encI w0 blk off dk (n + q') j j1 (by omega) (by omega)
          clear ca cb fa fb HHK HSP zj zj1 hj1 HNX HROT HCX
          generalize swp dk j j1 = d2 at *
          generalize cf dk[j]! dk[j1]! = cv at *
          generalize dk[j]! = xa at *
          generalize dk[j1]! = xb' at *
          have HDK := Lib.hid hsk
          generalize hwq : (putRow encI w0 blk off dk).drewN n = wq at *
          by_cases hcv : cv < 0
          · have HR1 := Lib.hid (HIF.out.1 hcv)
            have hdc : decide (cv < 0) = true := decide_eq_true hcv
            clear HIF HNJ
            go_wp2_with fail
            go_quiet (first | (go_at_call 51; refine Calls.quiet_of (hcl _)))
            go_wp2_with fail
            have hw2 := HW.out nq
            obtain ⟨fa, fb, ca, cb⟩ := HFA.out nq
            have HSQ := Lib.hid (HSP2.out nq)
            rw [← hw2] at fa fb ca cb
            have HW2 := Lib.hid hw2
            have HSR : Hid ((((wq.drewN nq).setCell ⟨blk, off + j, none⟩ (encI xb')).setCell ⟨blk, off + j1, none⟩ (encI xa)).drew = (putRow encI w0 blk off d2).drewN (n + nq + 1)) := by rw [Hid, hw2]; exact HSQ.out
            clear hw2 HFA HSP2 HW HSQ hcl ca' cb' HW2
            generalize wq.drewN nq = w9 at *
            go_big_region
            all_goals go_wp2_with fail
            go_roundw
            case rel => exact ⟨j1, n + nq + 1, d2, by go_num, by omega, by omega, HSZ.out, HNR.out, .inr HR1.out, HSR.out⟩
            case measure => simp [intOf]; omega
          · have HR1 := Lib.hid (fun h' => hcv (HIF.out.2 h'))
            have hdc : decide (cv < 0) = false := decide_eq_false hcv
            clear HIF
            go_wp2_with fail
            go_quiet (first | (go_at_call 51; refine Calls.quiet_of (hcl _)))
            go_wp2_with fail
            have HFIN := Lib.hid (HNJ.out (.inr (by rw [HJ1.out]; exact HR1.out)) HIN.out)
            go_roundw
            case rel => exact ⟨i + 1, n + nq, dk, by go_num, by omega, .inl (by omega), HDK.out, HFIN.out.1, HFIN.out.2.1, HFIN.out.2.2, HW.out nq⟩
            case measure => simp [intOf]; omega
        · have kja : ¬ (a : Int) < (j : Int) := by omega
          have dja : decide ((a : Int) < (j : Int)) = false := decide_eq_false kja
          have HFIN := Lib.hid (HNX.out j dk haj hji HROT.out (.inl (by omega)) HIN.out)
          have HW : Hid (∀ q', ((putRow encI w0 blk off dk).drewN n).drewN q' = (putRow encI w0 blk off dk).drewN (n + q')) := fun q' => World.drewN_drewN _ _ _
          generalize hwq : (putRow encI w0 blk off dk).drewN n = wq at *
          go_wp2_with fail
          go_quiet (fail)
          go_wp2_with fail
          go_roundw
          case rel => exact ⟨i + 1, n + nq, dk, by go_num, by omega, .inl (by omega), hsk, HFIN.out.1, HFIN.out.2.1, HFIN.out.2.2, HW.out nq⟩
          case measure => simp [intOf]; omega
    · have HFIN : Hid (SortO R (zOf di) a b ∧ MemO (zOf d) (zOf di) a b ∧ SameO (zOf d) (zOf di) a b) := by
        rcases (by omega : i = b ∨ (b ≤ a + 1 ∧ i = a + 1)) with h | h
        · subst h; exact ⟨HS.out, HM.out, HE.out⟩
        · refine ⟨SortO.short h.1, ?_, ?_⟩
          · rcases (by omega : b = a ∨ b = a + 1) with h' | h'
            · exact MemO.empty (by omega)
            · rw [h', ← h.2]; exact HM.out
          · intro x hx
            by_cases hxa : x = a
            · subst hxa
              obtain ⟨y, y1, y2, ey⟩ := HM.out.1 x (Nat.le_refl _) (by omega)
              rw [ey, show y = x by omega]
            · exact HE.out x (by omega)
      go_wp2_with fail
      go_end0
      exact ⟨rfl, n, di, hsi, HFIN.out.1, HFIN.out.2.1, HFIN.out.2.2, rfl⟩
end Go.Proofs.Ytkodnagneblgaaa
