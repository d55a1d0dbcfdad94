/- Walks: the library's stable sort, of at most 40 numbers that rise. -/
import Derived.Test.YtkodnagneblgaaaC8
import Derived.Test.YtkodnagneblgaaaC9
import Derived.LoopN
namespace Go.Proofs.Ytkodnagneblgaaa
open Go.RowKit Go.Sort
attribute [local go_sem ↓] Go.wp_at_zero Go.wp_at_succ
theorem RiseO.short {z : Nat → Int} {a b : Nat} (h : b ≤ a) : RiseO z a b := fun i j i1 ij j1 => by omega
theorem RiseO.part {z z' : Nat → Int} {a b a' b' : Nat} (h : RiseO z a b) (ha : a ≤ a') (hb : b' ≤ b) (e : ∀ i, a' ≤ i → i < b' → z' i = z i) : RiseO z' a' b' := fun i j i1 ij j1 => by
  rw [e i i1 (by omega), e j (by omega) j1]; exact h i j (by omega) ij (by omega)
theorem same_of_empty {z z' : Nat → Int} {a : Nat} (h : SameO z z' a a) : ∀ i, z' i = z i := fun i => h i (by omega)
/-- two sorted parts: what the merge asks -/
theorem two_parts {R : Int → Int → Prop} {z z1 z2 : Nat → Int} {n : Nat} (hr : RiseO z 0 n) (hn : 20 ≤ n) (t1 : SortO R z1 0 20) (m1 : MemO z z1 0 20) (e1 : SameO z z1 0 20) (t2 : SortO R z2 20 n) (m2 : MemO z1 z2 20 n) (e2 : SameO z1 z2 20 n) :
    SortO R z2 0 20 ∧ SortO R z2 20 n ∧ CrossO z2 0 20 n ∧ MemO z z2 0 n := by
  refine ⟨t1.congr (fun i _ i2 => e2 i (.inl i2)), t2, fun i j i1 i2 j1 j2 => ?_, (m1.widen e1 (Nat.le_refl _) hn).trans (m2.widen e2 (Nat.zero_le _) (Nat.le_refl _))⟩
  obtain ⟨x, x1, x2, ex⟩ := m1.1 i i1 i2
  obtain ⟨y, y1, y2, ey⟩ := m2.1 j j1 j2
  rw [e2 i (.inl i2), ex, ey, e1 y (.inr y1)]
  exact hr x y (Nat.zero_le _) (by omega) y2
set_option maxRecDepth 100000 in
set_option maxHeartbeats 8000000 in
theorem stable_any (K : Nat) (xb : Nat) (cf : Fin (K + 1) → Fin (K + 1) → Int) (R : Int → Int → Prop) (D : Int → Prop) (ho : Ord R D) (w0 : World) (blk off cap : Nat) (d0 : Array (Fin (K + 1)))
    (hcf : ∀ x y : Fin (K + 1), x.val < y.val → (cf y x < 0 ↔ R (y.val : Int) (x.val : Int))) (hcmp : CmpAt Try.prog 51 #[.pointer (some ⟨xb, 0, none⟩)] cf w0 blk off d0.size) (hH : Holds encI w0 blk off d0) (hsz : d0.size < 4611686018427387904) (q : Nat) (d : Array (Fin (K + 1))) (hN : d.size = d0.size) (h40 : d0.size ≤ 40) (hr : RiseO (zOf d) 0 d0.size) (hd : ∀ x, D x) :
    Calls Try.prog 55 #[.slice (some ⟨blk, off, none⟩) d0.size cap, .int .i64 (d0.size : Int), .func (.func 51) #[] #[.pointer (some ⟨xb, 0, none⟩)]] ((putRow encI w0 blk off d).drewN q) fun e w' => e = .returned (.tuple #[]) ∧
      ∃ (q' : Nat) (d' : Array (Fin (K + 1))), d'.size = d0.size ∧ SortO R (zOf d') 0 d0.size ∧ MemO (zOf d) (zOf d') 0 d0.size ∧ w' = (putRow encI w0 blk off d').drewN q' := by
  have HI : Hid (∀ (a b q : Nat) (d : Array (Fin (K + 1))), d.size = d0.size → a ≤ b → b ≤ d0.size → RiseO (zOf d) a b → Calls Try.prog 58 #[.slice (some ⟨blk, off, none⟩) d0.size cap, .int .i64 a, .int .i64 b, .func (.func 51) #[] #[.pointer (some ⟨xb, 0, none⟩)]] ((putRow encI w0 blk off d).drewN q) fun e w' => e = .returned (.tuple #[]) ∧
      ∃ (q' : Nat) (d' : Array (Fin (K + 1))), d'.size = d0.size ∧ SortO R (zOf d') a b ∧ MemO (zOf d) (zOf d') a b ∧ SameO (zOf d) (zOf d') a b ∧ w' = (putRow encI w0 blk off d').drewN q') := fun a b q d h1 h2 h3 h4 => ins_any K xb cf R D ho w0 blk off cap d0 hcf hcmp hH hsz a b q d h1 h2 h3 h4 (fun i _ _ => hd _)
  have HS : Hid (∀ (a m b q : Nat) (d : Array (Fin (K + 1))), d.size = d0.size → a < m → m < b → b ≤ d0.size → SortO R (zOf d) a m → SortO R (zOf d) m b → CrossO (zOf d) a m b → Calls Try.prog 59 #[.slice (some ⟨blk, off, none⟩) d0.size cap, .int .i64 a, .int .i64 m, .int .i64 b, .func (.func 51) #[] #[.pointer (some ⟨xb, 0, none⟩)]] ((putRow encI w0 blk off d).drewN q) fun e w' => e = .returned (.tuple #[]) ∧
      ∃ (q' : Nat) (d' : Array (Fin (K + 1))), d'.size = d0.size ∧ SortO R (zOf d') a b ∧ MemO (zOf d) (zOf d') a b ∧ SameO (zOf d) (zOf d') a b ∧ w' = (putRow encI w0 blk off d').drewN q') := fun a m b q d h1 h2 h3 h4 h5 h6 h7 => sym_any K xb cf R D ho w0 blk off cap d0 hcf hcmp hH hsz (b - a) a m b q d (Nat.le_refl _) h1 h2 h3 h4 h5 h6 h7 (fun i _ _ => hd _)
  have HR := Lib.hid hr
  clear hH hcmp hr hd hcf ho
  obtain ⟨n, hn⟩ : ∃ n, d0.size = n := ⟨_, rfl⟩
  rw [hn] at HI HS HR hN h40 hsz ⊢
  clear hn
  rcases (by omega : n < 20 ∨ n = 20 ∨ (20 < n ∧ n < 40) ∨ n = 40) with hc | hc | hc | hc
  · have f1 : ¬ (20 : Int) ≤ (n : Int) := by omega
    have f2 : ¬ (20 : Int) < (n : Int) := by omega
    go_enter Try.func55, Try.ntmps55
    go_wp2_with fail
    refine wp_loop_rounds 1 ?_
    rw [rounds_succ]
    go_wp2_with fail
    refine (HI.out 0 n q d hN (Nat.zero_le _) (Nat.le_refl _) HR.out).mono ?_
    rintro e w1 ⟨rfl, q1, d1, hs1, t1, m1, e1, rfl⟩
    have HFIN : Hid (SortO R (zOf d1) 0 n ∧ MemO (zOf d) (zOf d1) 0 n) := ⟨t1, m1⟩
    clear t1 m1 e1
    go_wp2_with fail
    refine wp_loop_rounds 1 ?_
    rw [rounds_succ]
    go_wp2_with fail
    go_end0
    exact ⟨rfl, q1, d1, hs1, HFIN.out.1, HFIN.out.2, rfl⟩
  · subst hc
    go_enter Try.func55, Try.ntmps55
    go_wp2_with fail
    refine wp_loop_rounds 2 ?_
    rw [rounds_succ]
    go_wp2_with fail
    refine (HI.out 0 20 q d hN (Nat.zero_le _) (Nat.le_refl _) HR.out).mono ?_
    rintro e w1 ⟨rfl, q1, d1, hs1, t1, m1, e1, rfl⟩
    have HF1 : Hid (SortO R (zOf d1) 0 20 ∧ MemO (zOf d) (zOf d1) 0 20) := ⟨t1, m1⟩
    clear t1 m1 e1
    go_wp2_with fail
    rw [rounds_succ]
    go_wp2_with fail
    refine (HI.out 20 20 q1 d1 hs1 (Nat.le_refl _) (Nat.le_refl _) (RiseO.short (Nat.le_refl _))).mono ?_
    rintro e w2 ⟨rfl, q2, d2, hs2, t2, m2, e2, rfl⟩
    have HFIN : Hid (SortO R (zOf d2) 0 20 ∧ MemO (zOf d) (zOf d2) 0 20) := ⟨HF1.out.1.congr (fun i _ _ => same_of_empty e2 i), by
      have : zOf d2 = zOf d1 := funext (same_of_empty e2)
      rw [this]; exact HF1.out.2⟩
    clear t2 m2 e2 HF1
    go_wp2_with fail
    refine wp_loop_rounds 1 ?_
    rw [rounds_succ]
    go_wp2_with fail
    go_end0
    exact ⟨rfl, q2, d2, hs2, HFIN.out.1, HFIN.out.2, rfl⟩
  · obtain ⟨hc1, hc2⟩ := hc
    have f1 : (20 : Int) ≤ (n : Int) := by omega
    have f2 : (20 : Int) < (n : Int) := by omega
    have f3 : ¬ (40 : Int) ≤ (n : Int) := by omega
    have f4 : ¬ (40 : Int) < (n : Int) := by omega
    go_enter Try.func55, Try.ntmps55
    go_wp2_with fail
    refine wp_loop_rounds 2 ?_
    rw [rounds_succ]
    go_wp2_with fail
    refine (HI.out 0 20 q d hN (Nat.zero_le _) (by omega) (HR.out.part (Nat.zero_le _) (by omega) (fun _ _ _ => rfl))).mono ?_
    rintro e w1 ⟨rfl, q1, d1, hs1, t1, m1, e1, rfl⟩
    have HT1 := Lib.hid t1
    have HM1 := Lib.hid m1
    have HE1 := Lib.hid e1
    clear t1 m1 e1
    go_wp2_with fail
    rw [rounds_succ]
    go_wp2_with fail
    refine (HI.out 20 n q1 d1 hs1 (by omega) (Nat.le_refl _) (HR.out.part (Nat.zero_le _) (Nat.le_refl _) (fun i i1 _ => HE1.out i (.inr i1)))).mono ?_
    rintro e w2 ⟨rfl, q2, d2, hs2, t2, m2, e2, rfl⟩
    have HP := Lib.hid (two_parts HR.out (by omega) HT1.out HM1.out HE1.out t2 m2 e2)
    clear t2 m2 e2 HT1 HM1 HE1
    go_wp2_with fail
    refine wp_loop_rounds 2 ?_
    rw [rounds_succ]
    go_wp2_with fail
    refine wp_loop_rounds 1 ?_
    rw [rounds_succ]
    go_wp2_with fail
    refine (HS.out 0 20 n q2 d2 hs2 (by omega) hc1 (Nat.le_refl _) HP.out.1 HP.out.2.1 HP.out.2.2.1).mono ?_
    rintro e w3 ⟨rfl, q3, d3, hs3, t3, m3, e3, rfl⟩
    have HFIN : Hid (SortO R (zOf d3) 0 n ∧ MemO (zOf d) (zOf d3) 0 n) := ⟨t3, HP.out.2.2.2.trans m3⟩
    clear t3 m3 e3
    go_wp2_with fail
    rw [rounds_succ]
    go_wp2_with fail
    go_end0
    exact ⟨rfl, q3, d3, hs3, HFIN.out.1, HFIN.out.2, rfl⟩
  · subst hc
    go_enter Try.func55, Try.ntmps55
    go_wp2_with fail
    refine wp_loop_rounds 3 ?_
    rw [rounds_succ]
    go_wp2_with fail
    refine (HI.out 0 20 q d hN (Nat.zero_le _) (by omega) (HR.out.part (Nat.zero_le _) (by omega) (fun _ _ _ => rfl))).mono ?_
    rintro e w1 ⟨rfl, q1, d1, hs1, t1, m1, e1, rfl⟩
    have HT1 := Lib.hid t1
    have HM1 := Lib.hid m1
    have HE1 := Lib.hid e1
    clear t1 m1 e1
    go_wp2_with fail
    rw [rounds_succ]
    go_wp2_with fail
    refine (HI.out 20 40 q1 d1 hs1 (by omega) (Nat.le_refl _) (HR.out.part (Nat.zero_le _) (Nat.le_refl _) (fun i i1 _ => HE1.out i (.inr i1)))).mono ?_
    rintro e w2 ⟨rfl, q2, d2, hs2, t2, m2, e2, rfl⟩
    have HP := Lib.hid (two_parts HR.out (by omega) HT1.out HM1.out HE1.out t2 m2 e2)
    clear t2 m2 e2 HT1 HM1 HE1
    go_wp2_with fail
    rw [rounds_succ]
    go_wp2_with fail
    refine (HI.out 40 40 q2 d2 hs2 (Nat.le_refl _) (Nat.le_refl _) (RiseO.short (Nat.le_refl _))).mono ?_
    rintro e w3 ⟨rfl, q3, d3, hs3, t3, m3, e3, rfl⟩
    have HEQ : zOf d3 = zOf d2 := funext (same_of_empty e3)
    have HP3 : Hid (SortO R (zOf d3) 0 20 ∧ SortO R (zOf d3) 20 40 ∧ CrossO (zOf d3) 0 20 40 ∧ MemO (zOf d) (zOf d3) 0 40) := by rw [HEQ]; exact HP.out
    clear t3 m3 e3 HEQ HP
    go_wp2_with fail
    refine wp_loop_rounds 2 ?_
    rw [rounds_succ]
    go_wp2_with fail
    refine wp_loop_rounds 2 ?_
    rw [rounds_succ]
    go_wp2_with fail
    refine (HS.out 0 20 40 q3 d3 hs3 (by omega) (by omega) (Nat.le_refl _) HP3.out.1 HP3.out.2.1 HP3.out.2.2.1).mono ?_
    rintro e w4 ⟨rfl, q4, d4, hs4, t4, m4, e4, rfl⟩
    have HFIN : Hid (SortO R (zOf d4) 0 40 ∧ MemO (zOf d) (zOf d4) 0 40) := ⟨t4, HP3.out.2.2.2.trans m4⟩
    clear t4 m4 e4
    go_wp2_with fail
    rw [rounds_succ]
    go_wp2_with fail
    rw [rounds_succ]
    go_wp2_with fail
    go_end0
    exact ⟨rfl, q4, d4, hs4, HFIN.out.1, HFIN.out.2, rfl⟩
theorem sortStable_any (K : Nat) (xb : Nat) (cf : Fin (K + 1) → Fin (K + 1) → Int) (R : Int → Int → Prop) (D : Int → Prop) (ho : Ord R D) (w0 : World) (blk off cap : Nat) (d0 : Array (Fin (K + 1)))
    (hcf : ∀ x y : Fin (K + 1), x.val < y.val → (cf y x < 0 ↔ R (y.val : Int) (x.val : Int))) (hcmp : CmpAt Try.prog 51 #[.pointer (some ⟨xb, 0, none⟩)] cf w0 blk off d0.size) (hH : Holds encI w0 blk off d0) (hsz : d0.size < 4611686018427387904) (h40 : d0.size ≤ 40) (hr : RiseO (zOf d0) 0 d0.size) (hd : ∀ x, D x) :
    Calls Try.prog 50 #[.slice (some ⟨blk, off, none⟩) d0.size cap, .func (.func 51) #[] #[.pointer (some ⟨xb, 0, none⟩)]] w0 fun e w' => e = .returned (.tuple #[]) ∧
      ∃ (q' : Nat) (d' : Array (Fin (K + 1))), d'.size = d0.size ∧ SortO R (zOf d') 0 d0.size ∧ MemO (zOf d0) (zOf d') 0 d0.size ∧ w' = (putRow encI w0 blk off d').drewN q' := by
  have HS := stable_any K xb cf R D ho w0 blk off cap d0 hcf hcmp hH hsz 0 d0 rfl h40 hr hd
  rw [show (putRow encI w0 blk off d0).drewN 0 = w0 from putRow_self encI w0 blk off d0 hH] at HS
  have HS2 := Lib.hid HS
  clear HS hH hcmp hr hd hcf ho
  go_enter Try.func50, Try.ntmps50
  go_wp2_with fail
  refine HS2.out.mono ?_
  rintro e w2 ⟨rfl, q', d', hs, ht, hm, rfl⟩
  have HF : Hid (SortO R (zOf d') 0 d0.size ∧ MemO (zOf d0) (zOf d') 0 d0.size) := ⟨ht, hm⟩
  clear ht hm
  go_wp2_with fail
  go_end0
  exact ⟨rfl, q', d', hs, HF.out.1, HF.out.2, rfl⟩
end Go.Proofs.Ytkodnagneblgaaa
