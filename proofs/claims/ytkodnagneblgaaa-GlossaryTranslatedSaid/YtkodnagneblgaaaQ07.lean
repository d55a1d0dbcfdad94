/- Walks: the library's insertion sort, on a row of numbers that rise. -/
import Derived.Test.YtkodnagneblgaaaQ05
import Derived.Test.YtkodnagneblgaaaQ06
import Derived.LoopN
import Derived.Test.YtkodnagneblgaaaQ04
namespace Go.Proofs.Ytkodnagneblgaaa
open Go.RowKit Go.Sort
attribute [local go_sem ↓] Go.wp_at_zero Go.wp_at_succ
/-- rising numbers -/
def RiseO (z : Nat → Int) (a b : Nat) : Prop := ∀ i j, a ≤ i → i < j → j < b → z i < z j
theorem MemO.empty {z z' : Nat → Int} {a b : Nat} (h : b ≤ a) : MemO z z' a b := ⟨fun i i1 i2 => by omega, fun i i1 i2 => by omega⟩
theorem cross_next {z z' : Nat → Int} {a i b : Nat} (h : RiseO z a b) (hm : MemO z z' a i) (hs : SameO z z' a i) (hi : i < b) : CrossO z' a i (i + 1) := fun x y x1 x2 y1 y2 => by
  obtain rfl : y = i := by omega
  obtain ⟨j, j1, j2, e⟩ := hm.1 x x1 x2
  rw [e, hs y (.inr (Nat.le_refl _))]
  exact h j y j1 (by omega) hi
theorem sort_next {R : Int → Int → Prop} {D : Int → Prop} (ho : Ord R D) {z zi zk : Nat → Int} {a i j b : Nat} (hr : RiseO z a b) (hd : DomO D z a b) (hib : i < b) (hs : SortO R zi a i) (hm : MemO z zi a i) (he : SameO z zi a i) (haj : a ≤ j) (hji : j ≤ i)
    (hrot : RotO zi zk j i (i + 1)) (h1 : j = a ∨ ¬ R (zi i) (zi (j - 1))) (h2 : j = i ∨ R (zi i) (zi j)) : SortO R zk a (i + 1) ∧ MemO z zk a (i + 1) ∧ SameO z zk a (i + 1) := by
  have hmi : MemO z zi a (i + 1) := hm.widen he (Nat.le_refl _) (by omega)
  have hei : SameO z zi a (i + 1) := he.widen (Nat.le_refl _) (by omega)
  have hd0 : DomO D z a (i + 1) := fun x x1 x2 => hd x x1 (by omega)
  have hdi : DomO D zi a (i + 1) := hd0.mem hmi
  have := merge_right ho haj hji hs (cross_next hr hm he hib) hdi h1 h2 hrot
  exact ⟨this.1, hmi.trans this.2.1, hei.trans this.2.2⟩
set_option maxRecDepth 20000 in
set_option maxHeartbeats 8000000 in
theorem ins_any (K : Nat) (xb : Nat) (cf : Fin (K + 1) → Fin (K + 1) → Int) (R : Int → Int → Prop) (D : Int → Prop) (ho : Ord R D) (w0 : World) (blk off cap : Nat) (d0 : Array (Fin (K + 1)))
    (hcf : ∀ x y : Fin (K + 1), x.val < y.val → (cf y x < 0 ↔ R (y.val : Int) (x.val : Int))) (hcmp : CmpAt Try.prog 51 #[.pointer (some ⟨xb, 0, none⟩)] cf w0 blk off d0.size) (hH : Holds encI w0 blk off d0) (hsz : d0.size < 4611686018427387904) (a b q : Nat) (d : Array (Fin (K + 1))) (hN : d.size = d0.size)
    (hab : a ≤ b) (hb : b ≤ d0.size) (hr : RiseO (zOf d) a b) (hd : DomO D (zOf d) a b) :
    Calls Try.prog 58 #[.slice (some ⟨blk, off, none⟩) d0.size cap, .int .i64 a, .int .i64 b, .func (.func 51) #[] #[.pointer (some ⟨xb, 0, none⟩)]] ((putRow encI w0 blk off d).drewN q) fun e w' => e = .returned (.tuple #[]) ∧
      ∃ (q' : Nat) (d' : Array (Fin (K + 1))), d'.size = d0.size ∧ SortO R (zOf d') a b ∧ MemO (zOf d) (zOf d') a b ∧ SameO (zOf d) (zOf d') a b ∧ w' = (putRow encI w0 blk off d').drewN q' := by
  have HH : Hid (Holds encI w0 blk off d0) := hH
  have HC : Hid (∀ (d : Array (Fin (K + 1))) (q : Nat), d.size = d0.size → ∀ x y n, _) := fun d q hd x y n => hcmp.quiet d q hd x y n
  have HCF := Lib.hid hcf
  have HO := Lib.hid ho
  have HR := Lib.hid hr
  have HD := Lib.hid hd
  clear hH hcmp hr hd hcf ho
  go_enter Try.func58, Try.ntmps58
  go_wp2_with fail
  go_loopw [8] (fun u wr => ∃ (i n : Nat) (dk : Array (Fin (K + 1))), u = .int .i64 (i : Int) ∧ a < i ∧ (i ≤ b ∨ i = a + 1) ∧ dk.size = d0.size ∧ SortO R (zOf dk) a i ∧ MemO (zOf d) (zOf dk) a i ∧ SameO (zOf d) (zOf dk) a i ∧ wr = (putRow encI w0 blk off dk).drewN n) (fun u _ => b - (intOf u).toNat)
  case atStart => exact ⟨a + 1, q, d, by go_num, by omega, .inr rfl, hN, SortO.short (Nat.le_refl _), MemO.refl _ _ _, SameO.refl _ _ _, rfl⟩
  case round =>
    obtain ⟨i, n, di, rfl, hai, hib, hsi, hs, hm, he, rfl⟩ := hrel
    have HS := Lib.hid hs
    have HM := Lib.hid hm
    have HE := Lib.hid he
    clear hs hm he
    by_cases hlt : i < b
    · have HNX : Hid (∀ (j : Nat) (dk : Array (Fin (K + 1))), a ≤ j → j ≤ i → RotO (zOf di) (zOf dk) j i (i + 1) → (j = a ∨ ¬ R (zOf di i) (zOf di (j - 1))) → (j = i ∨ R (zOf di i) (zOf di j)) → SortO R (zOf dk) a (i + 1) ∧ MemO (zOf d) (zOf dk) a (i + 1) ∧ SameO (zOf d) (zOf dk) a (i + 1)) :=
        fun j dk h1 h2 h3 h4 h5 => sort_next HO.out HR.out HD.out hlt HS.out HM.out HE.out h1 h2 h3 h4 h5
      have HCX := Lib.hid (cross_next HR.out HM.out HE.out hlt)
      go_wp2_with fail
      go_loopw [9] (fun u wr => ∃ (j n : Nat) (dk : Array (Fin (K + 1))), u = .int .i64 (j : Int) ∧ a ≤ j ∧ j ≤ i ∧ dk.size = d0.size ∧ RotO (zOf di) (zOf dk) j i (i + 1) ∧ (j = i ∨ R (zOf di i) (zOf di j)) ∧ wr = (putRow encI w0 blk off dk).drewN n) (fun u _ => (intOf u).toNat)
      case atStart => exact ⟨i, n, di, rfl, by omega, Nat.le_refl _, hsi, RotO.none (.inl rfl), .inl rfl, rfl⟩
      case round =>
        obtain ⟨j, n, dk, rfl, haj, hji, hsk, hrot, hin, rfl⟩ := hrel
        have HROT := Lib.hid hrot
        have HIN := Lib.hid hin
        clear hrot hin
        by_cases hja : a < j
        · obtain ⟨j1, hj1⟩ : ∃ j1, j1 + 1 = j := ⟨j - 1, by omega⟩
          have e5 : (j : Int) - 1 = (j1 : Int) := by omega
          have HHK := holds_putRow encI w0 blk off d0 dk HH.out hsk
          obtain ⟨ca, fa⟩ := HHK j (by omega)
          obtain ⟨cb, fb⟩ := HHK j1 (by omega)
          have HSP := Lib.hid (swap_worldC encI w0 blk off dk (n + 0) j j1 (by omega) (by omega))
          have HSZ := Lib.hid ((size_swp dk j j1).trans hsk)
          have ca' : ((putRow encI w0 blk off dk).drewN n).cell? ⟨blk, off + j, none⟩ = some (encI dk[j]!) := ca
          have cb' : ((putRow encI w0 blk off dk).drewN n).cell? ⟨blk, off + j1, none⟩ = some (encI dk[j1]!) := cb
          have hcl := HC.out dk n hsk dk[j]! dk[j1]!
          have zj : zOf dk j = zOf di i := by
            have := HROT.out.1 0 (by omega)
            simpa using this
          have zj1 : zOf dk j1 = zOf di j1 := HROT.out.2.2 j1 (.inl (by omega))
          have HIF : Hid (cf dk[j]! dk[j1]! < 0 ↔ R (zOf di i) (zOf di j1)) := by
            have := HCF.out dk[j1]! dk[j]! (val_lt (by show zOf dk j1 < zOf dk j; rw [zj, zj1]; exact HCX.out j1 i (by omega) (by omega) (Nat.le_refl _) (by omega)))
            rw [Hid, ← zj, ← zj1]
            exact this
          have HNR : Hid (RotO (zOf di) (zOf (swp dk j j1)) j1 i (i + 1)) := (hj1 ▸ HROT.out : RotO (zOf di) (zOf dk) (j1 + 1) i (i + 1)).back (by omega)
            (by unfold zOf; rw [swp_at (by omega) (by omega) (by omega), if_neg (by omega), if_pos rfl, hj1]) (by unfold zOf; rw [swp_at (by omega) (by omega) (by omega), hj1, if_pos rfl])
            (fun x h1 h2 => by unfold zOf; rw [swp_at (by omega) (by omega) (by omega), if_neg (by omega), if_neg h1])
          have lA : (j : Int) < (d0.size : Int) := by omega
          have lB : (j1 : Int) < (d0.size : Int) := by omega
          have hAB : off + j ≠ off + j1 := by omega
          have kja : (a : Int) < (j : Int) := by omega
          have dja : decide ((a : Int) < (j : Int)) = true := decide_eq_true kja
          have HW : Hid (∀ q', ((putRow encI w0 blk off dk).drewN n).drewN q' = (putRow encI w0 blk off dk).drewN (n + q')) := fun q' => World.drewN_drewN _ _ _
          have HNJ := Lib.hid (HNX.out j dk haj hji HROT.out)
          have HJ1 : Hid (j - 1 = j1) := by unfold Hid; omega
          have HFA : Hid (∀ q', ((putRow encI w0 blk off dk).drewN (n + q')).frozen? ⟨blk, off + j, none⟩ = false ∧ ((putRow encI w0 blk off dk).drewN (n + q')).frozen? ⟨blk, off + j1, none⟩ = false ∧ ((putRow encI w0 blk off dk).drewN (n + q')).cell? ⟨blk, off + j, none⟩ = some (encI dk[j]!) ∧ ((putRow encI w0 blk off dk).drewN (n + q')).cell? ⟨blk, off + j1, none⟩ = some (encI dk[j1]!)) := fun q' => ⟨fa, fb, ca, cb⟩
          have HSP2 : Hid (∀ q', ((((putRow encI w0 blk off dk).drewN (n + q')).setCell ⟨blk, off + j, none⟩ (encI dk[j1]!)).setCell ⟨blk, off + j1, none⟩ (encI dk[j]!)).drew = (putRow encI w0 blk off (swp dk j j1)).drewN (n + q' + 1)) := fun q' => swap_worldC encI w0 blk off dk (n + q') j j1 (by omega) (by omega)
          clear ca cb fa fb HHK HSP zj zj1 hj1 HNX HROT HCX
          generalize swp dk j j1 = d2 at *
          generalize cf dk[j]! dk[j1]! = cv at *
          generalize dk[j]! = xa at *
          generalize dk[j1]! = xb' at *
          have HDK := Lib.hid hsk
          generalize hwq : (putRow encI w0 blk off dk).drewN n = wq at *
          by_cases hcv : cv < 0
          · have HR1 := Lib.hid (HIF.out.1 hcv)
            have hdc : decide (cv < 0) = true := decide_eq_true hcv
            clear HIF HNJ
            go_wp2_with fail
            go_quiet (first | (go_at_call 51; refine Calls.quiet_of (hcl _)))
            go_wp2_with fail
            have hw2 := HW.out nq
            obtain ⟨fa, fb, ca, cb⟩ := HFA.out nq
            have HSQ := Lib.hid (HSP2.out nq)
            rw [← hw2] at fa fb ca cb
            have HW2 := Lib.hid hw2
            have HSR : Hid ((((wq.drewN nq).setCell ⟨blk, off + j, none⟩ (encI xb')).setCell ⟨blk, off + j1, none⟩ (encI xa)).drew = (putRow encI w0 blk off d2).drewN (n + nq + 1)) := by rw [Hid, hw2]; exact HSQ.out
            clear hw2 HFA HSP2 HW HSQ hcl ca' cb' HW2
            generalize wq.drewN nq = w9 at *
            go_big_region
            all_goals go_wp2_with fail
            go_roundw
            case rel => exact ⟨j1, n + nq + 1, d2, by go_num, by omega, by omega, HSZ.out, HNR.out, .inr HR1.out, HSR.out⟩
            case measure => simp [intOf]; omega
          · have HR1 := Lib.hid (fun h' => hcv (HIF.out.2 h'))
            have hdc : decide (cv < 0) = false := decide_eq_false hcv
            clear HIF
            go_wp2_with fail
            go_quiet (first | (go_at_call 51; refine Calls.quiet_of (hcl _)))
            go_wp2_with fail
            have HFIN := Lib.hid (HNJ.out (.inr (by rw [HJ1.out]; exact HR1.out)) HIN.out)
            go_roundw
            case rel => exact ⟨i + 1, n + nq, dk, by go_num, by omega, .inl (by omega), HDK.out, HFIN.out.1, HFIN.out.2.1, HFIN.out.2.2, HW.out nq⟩
            case measure => simp [intOf]; omega
        · have kja : ¬ (a : Int) < (j : Int) := by omega
          have dja : decide ((a : Int) < (j : Int)) = false := decide_eq_false kja
          have HFIN := Lib.hid (HNX.out j dk haj hji HROT.out (.inl (by omega)) HIN.out)
          have HW : Hid (∀ q', ((putRow encI w0 blk off dk).drewN n).drewN q' = (putRow encI w0 blk off dk).drewN (n + q')) := fun q' => World.drewN_drewN _ _ _
          generalize hwq : (putRow encI w0 blk off dk).drewN n = wq at *
          go_wp2_with fail
          go_quiet (fail)
          go_wp2_with fail
          go_roundw
          case rel => exact ⟨i + 1, n + nq, dk, by go_num, by omega, .inl (by omega), hsk, HFIN.out.1, HFIN.out.2.1, HFIN.out.2.2, HW.out nq⟩
          case measure => simp [intOf]; omega
    · have HFIN : Hid (SortO R (zOf di) a b ∧ MemO (zOf d) (zOf di) a b ∧ SameO (zOf d) (zOf di) a b) := by
        rcases (by omega : i = b ∨ (b ≤ a + 1 ∧ i = a + 1)) with h | h
        · subst h; exact ⟨HS.out, HM.out, HE.out⟩
        · refine ⟨SortO.short h.1, ?_, ?_⟩
          · rcases (by omega : b = a ∨ b = a + 1) with h' | h'
            · exact MemO.empty (by omega)
            · rw [h', ← h.2]; exact HM.out
          · intro x hx
            by_cases hxa : x = a
            · subst hxa
              obtain ⟨y, y1, y2, ey⟩ := HM.out.1 x (Nat.le_refl _) (by omega)
              rw [ey, show y = x by omega]
            · exact HE.out x (by omega)
      go_wp2_with fail
      go_end0
      exact ⟨rfl, n, di, hsi, HFIN.out.1, HFIN.out.2.1, HFIN.out.2.2, rfl⟩
end Go.Proofs.Ytkodnagneblgaaa
/- Walks: the library's stable sort, of at most 40 numbers that rise. -/
namespace Go.Proofs.Ytkodnagneblgaaa
open Go.RowKit Go.Sort
attribute [local go_sem ↓] Go.wp_at_zero Go.wp_at_succ
theorem RiseO.short {z : Nat → Int} {a b : Nat} (h : b ≤ a) : RiseO z a b := fun i j i1 ij j1 => by omega
theorem RiseO.part {z z' : Nat → Int} {a b a' b' : Nat} (h : RiseO z a b) (ha : a ≤ a') (hb : b' ≤ b) (e : ∀ i, a' ≤ i → i < b' → z' i = z i) : RiseO z' a' b' := fun i j i1 ij j1 => by
  rw [e i i1 (by omega), e j (by omega) j1]; exact h i j (by omega) ij (by omega)
theorem same_of_empty {z z' : Nat → Int} {a : Nat} (h : SameO z z' a a) : ∀ i, z' i = z i := fun i => h i (by omega)
/-- two sorted parts: what the merge asks -/
theorem two_parts {R : Int → Int → Prop} {z z1 z2 : Nat → Int} {n : Nat} (hr : RiseO z 0 n) (hn : 20 ≤ n) (t1 : SortO R z1 0 20) (m1 : MemO z z1 0 20) (e1 : SameO z z1 0 20) (t2 : SortO R z2 20 n) (m2 : MemO z1 z2 20 n) (e2 : SameO z1 z2 20 n) :
    SortO R z2 0 20 ∧ SortO R z2 20 n ∧ CrossO z2 0 20 n ∧ MemO z z2 0 n := by
  refine ⟨t1.congr (fun i _ i2 => e2 i (.inl i2)), t2, fun i j i1 i2 j1 j2 => ?_, (m1.widen e1 (Nat.le_refl _) hn).trans (m2.widen e2 (Nat.zero_le _) (Nat.le_refl _))⟩
  obtain ⟨x, x1, x2, ex⟩ := m1.1 i i1 i2
  obtain ⟨y, y1, y2, ey⟩ := m2.1 j j1 j2
  rw [e2 i (.inl i2), ex, ey, e1 y (.inr y1)]
  exact hr x y (Nat.zero_le _) (by omega) y2
set_option maxRecDepth 100000 in
set_option maxHeartbeats 8000000 in
theorem stable_any (K : Nat) (xb : Nat) (cf : Fin (K + 1) → Fin (K + 1) → Int) (R : Int → Int → Prop) (D : Int → Prop) (ho : Ord R D) (w0 : World) (blk off cap : Nat) (d0 : Array (Fin (K + 1)))
    (hcf : ∀ x y : Fin (K + 1), x.val < y.val → (cf y x < 0 ↔ R (y.val : Int) (x.val : Int))) (hcmp : CmpAt Try.prog 51 #[.pointer (some ⟨xb, 0, none⟩)] cf w0 blk off d0.size) (hH : Holds encI w0 blk off d0) (hsz : d0.size < 4611686018427387904) (q : Nat) (d : Array (Fin (K + 1))) (hN : d.size = d0.size) (h40 : d0.size ≤ 40) (hr : RiseO (zOf d) 0 d0.size) (hd : ∀ x, D x) :
    Calls Try.prog 55 #[.slice (some ⟨blk, off, none⟩) d0.size cap, .int .i64 (d0.size : Int), .func (.func 51) #[] #[.pointer (some ⟨xb, 0, none⟩)]] ((putRow encI w0 blk off d).drewN q) fun e w' => e = .returned (.tuple #[]) ∧
      ∃ (q' : Nat) (d' : Array (Fin (K + 1))), d'.size = d0.size ∧ SortO R (zOf d') 0 d0.size ∧ MemO (zOf d) (zOf d') 0 d0.size ∧ w' = (putRow encI w0 blk off d').drewN q' := by
  have HI : Hid (∀ (a b q : Nat) (d : Array (Fin (K + 1))), d.size = d0.size → a ≤ b → b ≤ d0.size → RiseO (zOf d) a b → Calls Try.prog 58 #[.slice (some ⟨blk, off, none⟩) d0.size cap, .int .i64 a, .int .i64 b, .func (.func 51) #[] #[.pointer (some ⟨xb, 0, none⟩)]] ((putRow encI w0 blk off d).drewN q) fun e w' => e = .returned (.tuple #[]) ∧
      ∃ (q' : Nat) (d' : Array (Fin (K + 1))), d'.size = d0.size ∧ SortO R (zOf d') a b ∧ MemO (zOf d) (zOf d') a b ∧ SameO (zOf d) (zOf d') a b ∧ w' = (putRow encI w0 blk off d').drewN q') := fun a b q d h1 h2 h3 h4 => ins_any K xb cf R D ho w0 blk off cap d0 hcf hcmp hH hsz a b q d h1 h2 h3 h4 (fun i _ _ => hd _)
  have HS : Hid (∀ (a m b q : Nat) (d : Array (Fin (K + 1))), d.size = d0.size → a < m → m < b → b ≤ d0.size → SortO R (zOf d) a m → SortO R (zOf d) m b → CrossO (zOf d) a m b → Calls Try.prog 59 #[.slice (some ⟨blk, off, none⟩) d0.size cap, .int .i64 a, .int .i64 m, .int .i64 b, .func (.func 51) #[] #[.pointer (some ⟨xb, 0, none⟩)]] ((putRow encI w0 blk off d).drewN q) fun e w' => e = .returned (.tuple #[]) ∧
      ∃ (q' : Nat) (d' : Array (Fin (K + 1))), d'.size = d0.size ∧ SortO R (zOf d') a b ∧ MemO (zOf d) (zOf d') a b ∧ SameO (zOf d) (zOf d') a b ∧ w' = (putRow encI w0 blk off d').drewN q') := fun a m b q d h1 h2 h3 h4 h5 h6 h7 => sym_any K xb cf R D ho w0 blk off cap d0 hcf hcmp hH hsz (b - a) a m b q d (Nat.le_refl _) h1 h2 h3 h4 h5 h6 h7 (fun i _ _ => hd _)
  have HR := Lib.hid hr
  clear hH hcmp hr hd hcf ho
  obtain ⟨n, hn⟩ : ∃ n, d0.size = n := ⟨_, rfl⟩
  rw [hn] at HI HS HR hN h40 hsz ⊢
  clear hn
  rcases (by omega : n < 20 ∨ n = 20 ∨ (20 < n ∧ n < 40) ∨ n = 40) with hc | hc | hc | hc
  · have f1 : ¬ (20 : Int) ≤ (n : Int) := by omega
    have f2 : ¬ (20 : Int) < (n : Int) := by omega
    go_enter Try.func55, Try.ntmps55
    go_wp2_with fail
    refine wp_loop_rounds 1 ?_
    rw [rounds_succ]
    go_wp2_with fail
    refine (HI.out 0 n q d hN (Nat.zero_le _) (Nat.le_refl _) HR.out).mono ?_
    rintro e w1 ⟨rfl, q1, d1, hs1, t1, m1, e1, rfl⟩
    have HFIN : Hid (SortO R (zOf d1) 0 n ∧ MemO (zOf d) (zOf d1) 0 n) := ⟨t1, m1⟩
    clear t1 m1 e1
    go_wp2_with fail
    refine wp_loop_rounds 1 ?_
    rw [rounds_succ]
    go_wp2_with fail
    go_end0
    exact ⟨rfl, q1, d1, hs1, HFIN.out.1, HFIN.out.2, rfl⟩
  · subst hc
    go_enter Try.func55, Try.ntmps55
    go_wp2_with fail
    refine wp_loop_rounds 2 ?_
    rw [rounds_succ]
    go_wp2_with fail
    refine (HI.out 0 20 q d hN (Nat.zero_le _) (Nat.le_refl _) HR.out).mono ?_
    rintro e w1 ⟨rfl, q1, d1, hs1, t1, m1, e1, rfl⟩
    have HF1 : Hid (SortO R (zOf d1) 0 20 ∧ MemO (zOf d) (zOf d1) 0 20) := ⟨t1, m1⟩
    clear t1 m1 e1
    go_wp2_with fail
    rw [rounds_succ]
    go_wp2_with fail
    refine (HI.out 20 20 q1 d1 hs1 (Nat.le_refl _) (Nat.le_refl _) (RiseO.short (Nat.le_refl _))).mono ?_
    rintro e w2 ⟨rfl, q2, d2, hs2, t2, m2, e2, rfl⟩
    have HFIN : Hid (SortO R (zOf d2) 0 20 ∧ MemO (zOf d) (zOf d2) 0 20) := ⟨HF1.out.1.congr (fun i _ _ => same_of_empty e2 i), by
      have : zOf d2 = zOf d1 := funext (same_of_empty e2)
      rw [this]; exact HF1.out.2⟩
    clear t2 m2 e2 HF1
    go_wp2_with fail
    refine wp_loop_rounds 1 ?_
    rw [rounds_succ]
    go_wp2_with fail
    go_end0
    exact ⟨rfl, q2, d2, hs2, HFIN.out.1, HFIN.out.2, rfl⟩
  · obtain ⟨hc1, hc2⟩ := hc
    have f1 : (20 : Int) ≤ (n : Int) := by omega
    have f2 : (20 : Int) < (n : Int) := by omega
    have f3 : ¬ (40 : Int) ≤ (n : Int) := by omega
    have f4 : ¬ (40 : Int) < (n : Int) := by omega
    go_enter Try.func55, Try.ntmps55
    go_wp2_with fail
    refine wp_loop_rounds 2 ?_
    rw [rounds_succ]
    go_wp2_with fail
    refine (HI.out 0 20 q d hN (Nat.zero_le _) (by omega) (HR.out.part (Nat.zero_le _) (by omega) (fun _ _ _ => rfl))).mono ?_
    rintro e w1 ⟨rfl, q1, d1, hs1, t1, m1, e1, rfl⟩
    have HT1 := Lib.hid t1
    have HM1 := Lib.hid m1
    have HE1 := Lib.hid e1
    clear t1 m1 e1
    go_wp2_with fail
    rw [rounds_succ]
    go_wp2_with fail
    refine (HI.out 20 n q1 d1 hs1 (by omega) (Nat.le_refl _) (HR.out.part (Nat.zero_le _) (Nat.le_refl _) (fun i i1 _ => HE1.out i (.inr i1)))).mono ?_
    rintro e w2 ⟨rfl, q2, d2, hs2, t2, m2, e2, rfl⟩
    have HP := Lib.hid (two_parts HR.out (by omega) HT1.out HM1.out HE1.out t2 m2 e2)
    clear t2 m2 e2 HT1 HM1 HE1
    go_wp2_with fail
    refine wp_loop_rounds 2 ?_
    rw [rounds_succ]
    go_wp2_with fail
    refine wp_loop_rounds 1 ?_
    rw [rounds_succ]
    go_wp2_with fail
    refine (HS.out 0 20 n q2 d2 hs2 (by omega) hc1 (Nat.le_refl _) HP.out.1 HP.out.2.1 HP.out.2.2.1).mono ?_
    rintro e w3 ⟨rfl, q3, d3, hs3, t3, m3, e3, rfl⟩
    have HFIN : Hid (SortO R (zOf d3) 0 n ∧ MemO (zOf d) (zOf d3) 0 n) := ⟨t3, HP.out.2.2.2.trans m3⟩
    clear t3 m3 e3
    go_wp2_with fail
    rw [rounds_succ]
    go_wp2_with fail
    go_end0
    exact ⟨rfl, q3, d3, hs3, HFIN.out.1, HFIN.out.2, rfl⟩
  · subst hc
    go_enter Try.func55, Try.ntmps55
    go_wp2_with fail
    refine wp_loop_rounds 3 ?_
    rw [rounds_succ]
    go_wp2_with fail
    refine (HI.out 0 20 q d hN (Nat.zero_le _) (by omega) (HR.out.part (Nat.zero_le _) (by omega) (fun _ _ _ => rfl))).mono ?_
    rintro e w1 ⟨rfl, q1, d1, hs1, t1, m1, e1, rfl⟩
    have HT1 := Lib.hid t1
    have HM1 := Lib.hid m1
    have HE1 := Lib.hid e1
    clear t1 m1 e1
    go_wp2_with fail
    rw [rounds_succ]
    go_wp2_with fail
    refine (HI.out 20 40 q1 d1 hs1 (by omega) (Nat.le_refl _) (HR.out.part (Nat.zero_le _) (Nat.le_refl _) (fun i i1 _ => HE1.out i (.inr i1)))).mono ?_
    rintro e w2 ⟨rfl, q2, d2, hs2, t2, m2, e2, rfl⟩
    have HP := Lib.hid (two_parts HR.out (by omega) HT1.out HM1.out HE1.out t2 m2 e2)
    clear t2 m2 e2 HT1 HM1 HE1
    go_wp2_with fail
    rw [rounds_succ]
    go_wp2_with fail
    refine (HI.out 40 40 q2 d2 hs2 (Nat.le_refl _) (Nat.le_refl _) (RiseO.short (Nat.le_refl _))).mono ?_
    rintro e w3 ⟨rfl, q3, d3, hs3, t3, m3, e3, rfl⟩
    have HEQ : zOf d3 = zOf d2 := funext (same_of_empty e3)
    have HP3 : Hid (SortO R (zOf d3) 0 20 ∧ SortO R (zOf d3) 20 40 ∧ CrossO (zOf d3) 0 20 40 ∧ MemO (zOf d) (zOf d3) 0 40) := by rw [HEQ]; exact HP.out
    clear t3 m3 e3 HEQ HP
    go_wp2_with fail
    refine wp_loop_rounds 2 ?_
    rw [rounds_succ]
    go_wp2_with fail
    refine wp_loop_rounds 2 ?_
    rw [rounds_succ]
    go_wp2_with fail
    refine (HS.out 0 20 40 q3 d3 hs3 (by omega) (by omega) (Nat.le_refl _) HP3.out.1 HP3.out.2.1 HP3.out.2.2.1).mono ?_
    rintro e w4 ⟨rfl, q4, d4, hs4, t4, m4, e4, rfl⟩
    have HFIN : Hid (SortO R (zOf d4) 0 40 ∧ MemO (zOf d) (zOf d4) 0 40) := ⟨t4, HP3.out.2.2.2.trans m4⟩
    clear t4 m4 e4
    go_wp2_with fail
    rw [rounds_succ]
    go_wp2_with fail
    rw [rounds_succ]
    go_wp2_with fail
    go_end0
    exact ⟨rfl, q4, d4, hs4, HFIN.out.1, HFIN.out.2, rfl⟩
theorem sortStable_any (K : Nat) (xb : Nat) (cf : Fin (K + 1) → Fin (K + 1) → Int) (R : Int → Int → Prop) (D : Int → Prop) (ho : Ord R D) (w0 : World) (blk off cap : Nat) (d0 : Array (Fin (K + 1)))
    (hcf : ∀ x y : Fin (K + 1), x.val < y.val → (cf y x < 0 ↔ R (y.val : Int) (x.val : Int))) (hcmp : CmpAt Try.prog 51 #[.pointer (some ⟨xb, 0, none⟩)] cf w0 blk off d0.size) (hH : Holds encI w0 blk off d0) (hsz : d0.size < 4611686018427387904) (h40 : d0.size ≤ 40) (hr : RiseO (zOf d0) 0 d0.size) (hd : ∀ x, D x) :
    Calls Try.prog 50 #[.slice (some ⟨blk, off, none⟩) d0.size cap, .func (.func 51) #[] #[.pointer (some ⟨xb, 0, none⟩)]] w0 fun e w' => e = .returned (.tuple #[]) ∧
      ∃ (q' : Nat) (d' : Array (Fin (K + 1))), d'.size = d0.size ∧ SortO R (zOf d') 0 d0.size ∧ MemO (zOf d0) (zOf d') 0 d0.size ∧ w' = (putRow encI w0 blk off d').drewN q' := by
  have HS := stable_any K xb cf R D ho w0 blk off cap d0 hcf hcmp hH hsz 0 d0 rfl h40 hr hd
  rw [show (putRow encI w0 blk off d0).drewN 0 = w0 from putRow_self encI w0 blk off d0 hH] at HS
  have HS2 := Lib.hid HS
  clear HS hH hcmp hr hd hcf ho
  go_enter Try.func50, Try.ntmps50
  go_wp2_with fail
  refine HS2.out.mono ?_
  rintro e w2 ⟨rfl, q', d', hs, ht, hm, rfl⟩
  have HF : Hid (SortO R (zOf d') 0 d0.size ∧ MemO (zOf d0) (zOf d') 0 d0.size) := ⟨ht, hm⟩
  clear ht hm
  go_wp2_with fail
  go_end0
  exact ⟨rfl, q', d', hs, HF.out.1, HF.out.2, rfl⟩
end Go.Proofs.Ytkodnagneblgaaa
/- Walks: the comparison of two terms; how an index stands in memory. -/
namespace Go.Proofs.Ytkodnagneblgaaa
open Go.RowKit Go.Maps Go.Sort
attribute [local go_sem] Ext.cell Ext.frozen
attribute [local go_sem ↓] Go.wp_at_zero Go.wp_at_succ
/-- the lists of words of the terms: a row of slices, each a row of strings -/
structure WordsAt (w : World) (base : Nat) (v : Value) (svs : List Value) (lists : List (List ByteArray)) : Prop where
  row : w.ownsRow base 39 1 v svs.length svs
  len : svs.length = lists.length
  each : ∀ j, j < lists.length → StrR w base (svs.getD j undef) (lists.getD j [])
theorem WordsAt.form {w : World} {base : Nat} {v : Value} {svs : List Value} {lists : List (List ByteArray)} (h : WordsAt w base v svs lists) : ∃ ad c, v = .slice ad svs.length c := own_form h.row
theorem WordsAt.at_other {w w' : World} {base : Nat} {v : Value} {svs : List Value} {lists : List (List ByteArray)} (h : WordsAt w base v svs lists) {b : Nat} {E : TypeId} {s : Nat} {u : Value} {n : Nat} {xs : List Value} (hr : w.ownsRow b E s u n xs)
    (h1 : 39 ≠ E) (h2 : 9 ≠ E) (hg : w.grownBy w' u.ownBlock) : WordsAt w' base v svs lists :=
  ⟨own_other h.row hr h1 hg, h.len, fun j hj => own_other (h.each j hj) hr h2 hg⟩
theorem WordsAt.at_cells {w w' : World} {base : Nat} {v : Value} {svs : List Value} {lists : List (List ByteArray)} (h : WordsAt w base v svs lists) {k : Nat} {cur : Array Value} {T : TypeId} {fr : Nat × Nat} (hk : w.heap[k]? = some (.cells cur T fr))
    (h1 : T ≠ 39) (h2 : T ≠ 9) (hg : w.grownBy w' (some k)) : WordsAt w' base v svs lists :=
  ⟨own_kept_at h.row hk h1 hg, h.len, fun j hj => own_kept_at (h.each j hj) hk h2 hg⟩
theorem WordsAt.at_map {w w' : World} {base : Nat} {v : Value} {svs : List Value} {lists : List (List ByteArray)} (h : WordsAt w base v svs lists) {M n : Nat} {hd : ByteArray → Value} (hm : GM w M n hd) (hg : w.grownBy w' (some M)) : WordsAt w' base v svs lists :=
  ⟨own_kept_map h.row hm hg, h.len, fun j hj => own_kept_map (h.each j hj) hm hg⟩
theorem WordsAt.at_none {w w' : World} {base : Nat} {v : Value} {svs : List Value} {lists : List (List ByteArray)} (h : WordsAt w base v svs lists) (hg : w.grownBy w' none) : WordsAt w' base v svs lists :=
  ⟨own_kept_none h.row hg, h.len, fun j hj => own_kept_none (h.each j hj) hg⟩
theorem WordsAt.below {w w' : World} {base : Nat} {v : Value} {svs : List Value} {lists : List (List ByteArray)} (h : WordsAt w base v svs lists) (hb : Below w.heap.size w w') : WordsAt w' base v svs lists := h.at_none (grown_none hb)
/-- how many words a term has -/
def lnW (lists : List (List ByteArray)) (i : Nat) : Nat := (lists.getD i []).length
/-- the comparison reads the box and the words alone -/
theorem cmp_at (K xb base : Nat) (wv mv : Value) (svs : List Value) (lists : List (List ByteArray)) (hK : lists.length = K + 1) (w : World) (hbox : w.heap[xb]? = some (.cells #[wv, mv] 80 (0, 0))) (hw : WordsAt w base wv svs lists) (hl : ∀ i, lnW lists i ≤ 1000000000) (x y : Fin (K + 1)) :
    Calls Try.prog 51 (#[encI x, encI y] ++ #[.pointer (some ⟨xb, 0, none⟩)]) w fun e w' => e = .returned (.int .i64 ((lnW lists y.val : Int) - (lnW lists x.val : Int))) ∧ ∃ q, w' = w.drewN q := by
  obtain ⟨ad, c, rfl⟩ := hw.form
  obtain ⟨b, off, hsa⟩ := Own.sl hw.row
  have hls := hw.len
  have hx : x.val < svs.length := by have := x.isLt; omega
  have hy : y.val < svs.length := by have := y.isLt; omega
  have c0 : w.cell? ⟨xb, 0, none⟩ = some (.slice ad svs.length c) := by rw [Lib.cell_of_heap hbox]; rfl
  have cx := hsa.cell x.val hx
  have cy := hsa.cell y.val hy
  have ix := fun W => hsa.ix (c := c) 74 39 Try.underlying74 cellsStrs hx W
  have iy := fun W => hsa.ix (c := c) 74 39 Try.underlying74 cellsStrs hy W
  obtain ⟨ax, k1, ex⟩ := (hw.each x.val (by omega)).form
  obtain ⟨ay, k2, ey⟩ := (hw.each y.val (by omega)).form
  rw [ex] at cx
  rw [ey] at cy
  have lx : (lists.getD x.val []).length = lnW lists x.val := rfl
  have ly : (lists.getD y.val []).length = lnW lists y.val := rfl
  rw [lx] at cx
  rw [ly] at cy
  have bx := hl x.val
  have by' := hl y.val
  have hwr : IntKind.i64.wrap ((lnW lists y.val : Int) - (lnW lists x.val : Int)) = (lnW lists y.val : Int) - (lnW lists x.val : Int) := by rw [IntKind.wrap_i64]; omega
  clear hsa ex ey hw lx ly hl hbox
  generalize lnW lists x.val = nx at *
  generalize lnW lists y.val = ny at *
  generalize svs.length = m at *
  show Calls Try.prog 51 #[.int .i64 (x.val : Int), .int .i64 (y.val : Int), .pointer (some ⟨xb, 0, none⟩)] w _
  generalize x.val = i at *
  generalize y.val = k at *
  clear hK hls
  go_enter Try.func51, Try.ntmps51
  go_wp2_with fail
  go_quiet (fail)
  go_wp2_with fail
  go_ret
  exact ⟨rfl, nq, rfl⟩
end Go.Proofs.Ytkodnagneblgaaa
/- The index of terms under way: its words, its groups. -/
namespace Go.Proofs.Ytkodnagneblgaaa
open Go.RowKit Go.Maps Go.Sort
/-- the terms below g whose first word is s -/
def grp (lists : List (List ByteArray)) (g : Nat) (s : ByteArray) : List Nat := (List.range g).filter fun j => decide ((lists.getD j []).head? = some s)
theorem grp_succ (lists : List (List ByteArray)) (g : Nat) (s : ByteArray) : grp lists (g + 1) s = grp lists g s ++ (if (lists.getD g []).head? = some s then [g] else []) := by
  unfold grp
  rw [List.range_succ, List.filter_append]
  congr 1
  by_cases h : (lists.getD g []).head? = some s
  · rw [if_pos h, List.filter_cons, if_pos (decide_eq_true h), List.filter_nil]
  · rw [if_neg h, List.filter_cons, if_neg (by rw [decide_eq_false h]; simp), List.filter_nil]
theorem grp_mem {lists : List (List ByteArray)} {g j : Nat} {s : ByteArray} : j ∈ grp lists g s ↔ j < g ∧ (lists.getD j []).head? = some s := by
  unfold grp
  rw [List.mem_filter, List.mem_range, decide_eq_true_eq]
theorem grp_len (lists : List (List ByteArray)) (g : Nat) (s : ByteArray) : (grp lists g s).length ≤ g := by
  have := List.length_filter_le (fun j => decide ((lists.getD j []).head? = some s)) (List.range g)
  rwa [List.length_range] at this
/-- words of i terms, groups of g terms -/
structure IX (w : World) (base xb M i g : Nat) (wv : Value) (svs : List Value) (hd : ByteArray → Value) (lists : List (List ByteArray)) : Prop where
  box : w.heap[xb]? = some (.cells #[wv, .map (some M)] 80 (0, 0))
  words : WordsAt w base wv svs (lists.take i)
  gm : GM w M g hd
  rows : ∀ s, InR w base (hd s) (grp lists g s)
  apart : ∀ s t, s ≠ t → (hd s).ownBlock = none ∨ (hd s).ownBlock ≠ (hd t).ownBlock
  nz : ∀ s, hd s = .slice none 0 0 ∨ grp lists g s ≠ []
  bx : base ≤ xb
  bM : base ≤ M
  bs : base ≤ w.heap.size
variable {w w' : World} {base xb M i g : Nat} {wv : Value} {svs : List Value} {hd : ByteArray → Value} {lists : List (List ByteArray)}
theorem IX.below (h : IX w base xb M i g wv svs hd lists) (hb : Below w.heap.size w w') : IX w' base xb M i g wv svs hd lists :=
  ⟨(hb.block _ (Array.getElem?_eq_some_iff.1 h.box).1).trans h.box, h.words.below hb, h.gm.same (hb.block _ h.gm.lt), fun s => own_kept_none (h.rows s) (grown_none hb), h.apart, h.nz, h.bx, h.bM, Nat.le_trans h.bs hb.size⟩
theorem GM.mono {w : World} {M n n' : Nat} {hd : ByteArray → Value} (h : GM w M n hd) (hn : n ≤ n') : GM w M n' hd := by
  obtain ⟨D, h1, h2⟩ := h
  exact ⟨D, h1.mono hn, h2⟩
theorem take_snoc {α : Type} (l : List α) (i : Nat) (d : α) (h : i < l.length) : l.take (i + 1) = l.take i ++ [l.getD i d] := by
  rw [List.take_succ_eq_append_getElem h]
  simp [List.getD, List.getElem?_eq_getElem h]
theorem getD_snoc_lt {α : Type} (l : List α) (x d : α) (j : Nat) (h : j < l.length) : (l ++ [x]).getD j d = l.getD j d := by
  rw [List.getD_eq_getElem?_getD, List.getElem?_append_left h, ← List.getD_eq_getElem?_getD]
theorem getD_snoc_eq {α : Type} (l : List α) (x d : α) (j : Nat) (h : j = l.length) : (l ++ [x]).getD j d = x := by
  rw [List.getD_eq_getElem?_getD, List.getElem?_append_right (by omega), h, Nat.sub_self]; rfl
theorem getD_take {α : Type} (l : List α) (d : α) (i j : Nat) (h : j < i) : (l.take i).getD j d = l.getD j d := by
  rw [List.getD_eq_getElem?_getD, List.getElem?_take_of_lt h, ← List.getD_eq_getElem?_getD]
/-- a further list of words; the box holds the new slice -/
theorem IX.push (h : IX w base xb M i g wv svs hd lists) (hi : i < lists.length) {sv : Value} (hsv : StrR w base sv (lists.getD i [])) {w1 : World} {wv' : Value} (hg : w.grownBy w1 wv.ownBlock) (hown : w1.ownsRow base 39 1 wv' (svs.length + 1) (svs ++ [sv])) :
    IX (w1.setCell ⟨xb, 0, none⟩ wv') base xb M (i + 1) g wv' (svs ++ [sv]) hd lists := by
  have hb1 : w1.heap[xb]? = some (.cells #[wv, .map (some M)] 80 (0, 0)) := (hg.block _ (Array.getElem?_eq_some_iff.1 h.box).1 (by
    intro e
    rcases h.words.row.2 with ⟨h0, _⟩ | ⟨b, cap, cur, h0, _, h3, _⟩
    · rw [h0] at e; cases e
    · rw [h0] at e
      injection e with e
      have e : xb = b := e
      subst e
      rw [h.box] at h3
      injection h3 with h3
      injection h3 with _ h4
      exact absurd h4 (by decide))).trans h.box
  have hg2 := grown_setCell w1 xb 0 wv'
  have hl := h.words.len
  rw [List.length_take, Nat.min_eq_left (by omega)] at hl
  have htl : (lists.take (i + 1)).length = i + 1 := by rw [List.length_take, Nat.min_eq_left (by omega)]
  refine ⟨?_, ⟨?_, ?_, ?_⟩, ?_, fun s => ?_, h.apart, h.nz, h.bx, h.bM, ?_⟩
  · simp [World.setCell, Array.getElem?_modify, hb1]
  · rw [List.length_append]
    exact own_kept_at hown hb1 (by decide) hg2
  · rw [htl, List.length_append, hl]; rfl
  · intro j hj
    rw [htl] at hj
    rw [getD_take _ _ _ _ hj]
    by_cases hji : j < i
    · rw [getD_snoc_lt _ _ _ _ (by omega)]
      have := h.words.each j (by rw [List.length_take, Nat.min_eq_left (by omega)]; exact hji)
      rw [getD_take _ _ _ _ hji] at this
      exact own_kept_at (own_other this h.words.row (by decide) hg) hb1 (by decide) hg2
    · obtain rfl : j = i := by omega
      rw [getD_snoc_eq _ _ _ _ (by omega)]
      exact own_kept_at (own_other hsv h.words.row (by decide) hg) hb1 (by decide) hg2
  · have hM := h.gm.kept hg (h.gm.apart h.words.row)
    refine hM.kept hg2 (fun e => ?_)
    injection e with e
    obtain ⟨D, ⟨es, clock, h1, _⟩, _⟩ := hM
    rw [e, hb1] at h1
    cases h1
  · exact own_kept_at (own_other (h.rows s) h.words.row (by decide) hg) hb1 (by decide) hg2
  · exact Nat.le_trans h.bs (Nat.le_trans hg.size hg2.size)
/-- a term without words joins no group -/
theorem IX.skip (h : IX w base xb M i g wv svs hd lists) (h0 : (lists.getD g []) = []) : IX w base xb M i (g + 1) wv svs hd lists :=
  ⟨h.box, h.words, h.gm.mono (by omega), fun s => by rw [grp_succ, h0, if_neg (by intro e; cases e), List.append_nil]; exact h.rows s, h.apart, fun s => by rw [grp_succ, h0, if_neg (by intro e; cases e), List.append_nil]; exact h.nz s, h.bx, h.bM, h.bs⟩
/-- a term joins the group of its first word -/
theorem IX.put (h : IX w base xb M i g wv svs hd lists) {s : ByteArray} (hs : (lists.getD g []).head? = some s) (hn : s.size ≤ maxLen) (hgm : g < maxLen) {w1 : World} {v' : Value} (hg : w.grownBy w1 (hd s).ownBlock)
    (hown : w1.ownsRow base 3 1 v' ((grp lists g s).length + 1) ((grp lists g s).map (fun (k : Nat) => Value.int .i64 (k : Int)) ++ [.int .i64 (g : Int)])) (hloc : v'.ownBlock = (hd s).ownBlock ∨ ∃ q, v'.ownBlock = some q ∧ w.heap.size ≤ q) :
    ∃ w2, (Instr.mapUpdate 78 (.map (some M)) (.string s) v').run Try.prog w1 = .ok () w2 ∧ IX w2 base xb M i (g + 1) wv svs (updH hd s v') lists ∧ w1.grownBy w2 (some M) := by
  have hbs := h.rows s
  have hb1 : w1.heap[xb]? = some (.cells #[wv, .map (some M)] 80 (0, 0)) := (hg.block _ (Array.getElem?_eq_some_iff.1 h.box).1 (by
    intro e
    rcases hbs.2 with ⟨h0, _⟩ | ⟨b, cap, cur, h0, _, h3, _⟩
    · rw [h0] at e; cases e
    · rw [h0] at e
      injection e with e
      have e : xb = b := e
      subst e
      rw [h.box] at h3
      injection h3 with h3
      injection h3 with _ h4
      exact absurd h4 (by decide))).trans h.box
  have hM1 := h.gm.kept hg (h.gm.apart hbs)
  obtain ⟨d, hd'⟩ := hdR_own hown
  obtain ⟨w2, hrun, hM2, hg2⟩ := hM1.put s hn hgm v' d hd' (by
    rintro rfl
    rcases hown.2 with ⟨_, h0⟩ | ⟨b, cap, cur, h0, _⟩
    · omega
    · cases h0)
  have hlt : ∀ t k, (hd t).ownBlock = some k → k < w.heap.size := fun t k hk => ((h.rows t).lt k hk).2
  refine ⟨w2, hrun, ⟨?_, ?_, hM2, fun t => ?_, fun t u htu => ?_, fun t => ?_, h.bx, h.bM, Nat.le_trans h.bs (Nat.le_trans hg.size hg2.size)⟩, hg2⟩
  · refine (hg2.block _ (Array.getElem?_eq_some_iff.1 hb1).1 (fun e => ?_)).trans hb1
    injection e with e
    obtain ⟨D, ⟨es, clock, h1, _⟩, _⟩ := hM1
    rw [← e, hb1] at h1
    cases h1
  · exact (h.words.at_other hbs (by decide) (by decide) hg).at_map hM1 hg2
  · unfold updH
    by_cases e : t = s
    · subst e
      rw [if_pos rfl, grp_succ, if_pos hs]
      have : w1.ownsRow base 3 1 v' (grp lists g t ++ [g]).length ((grp lists g t ++ [g]).map fun (k : Nat) => Value.int .i64 (k : Int)) := by
        rw [List.length_append, List.map_append]; exact hown
      exact own_kept_map this hM1 hg2
    · rw [if_neg e, grp_succ, if_neg (by rw [hs]; intro e'; injection e' with e'; exact e e'.symm), List.append_nil]
      exact own_kept_map ((h.rows t).kept hg (h.apart t s e)) hM1 hg2
  · unfold updH
    by_cases e : t = s
    · subst e
      rw [if_pos rfl, if_neg (Ne.symm htu)]
      rcases hloc with hl | ⟨q, hq, hql⟩
      · rw [hl]; exact h.apart t u htu
      · right
        intro e'
        rw [hq] at e'
        have := hlt u q e'.symm
        omega
    · rw [if_neg e]
      by_cases e2 : u = s
      · subst e2
        rw [if_pos rfl]
        rcases hloc with hl | ⟨q, hq, hql⟩
        · rw [hl]; exact h.apart t u htu
        · cases hx : (hd t).ownBlock with
          | none => exact .inl rfl
          | some k =>
            right
            intro e'
            rw [hq] at e'
            injection e' with e'
            have := hlt t k hx
            omega
      · rw [if_neg e2]
        exact h.apart t u htu
  · unfold updH
    by_cases e : t = s
    · subst e
      right
      rw [grp_succ, if_pos hs]
      simp
    · rw [if_neg e, grp_succ, if_neg (by rw [hs]; intro e'; injection e' with e'; exact e e'.symm), List.append_nil]
      exact h.nz t
/-- at the beginning -/
theorem IX.start {w : World} {base xb M : Nat} (hb : w.heap[xb]? = some (.cells #[.slice none 0 0, .map (some M)] 80 (0, 0))) (hm : GM w M 0 (fun _ => .slice none 0 0)) (bx : base ≤ xb) (bM : base ≤ M) (bs : base ≤ w.heap.size) (lists : List (List ByteArray)) :
    IX w base xb M 0 0 (.slice none 0 0) [] (fun _ => .slice none 0 0) lists :=
  ⟨hb, ⟨World.ownsRow_nil _ _ _ _, by simp, fun j hj => by simp at hj⟩, hm, fun s => World.ownsRow_nil _ _ _ _, fun _ _ _ => .inl rfl, fun _ => .inl rfl, bx, bM, bs⟩
end Go.Proofs.Ytkodnagneblgaaa
