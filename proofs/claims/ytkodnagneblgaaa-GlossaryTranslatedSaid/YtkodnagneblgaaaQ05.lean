/- Walks: the library's rotate, on a row of numbers. -/
import Derived.Test.YtkodnagneblgaaaQ04
import Derived.Deep.QuietTactic
namespace Go.Proofs.Ytkodnagneblgaaa
open Go.RowKit Go.Sort
attribute [local go_sem ↓] Go.wp_at_zero Go.wp_at_succ
theorem row_two {K : Nat} {w : World} {blk off : Nat} {d d' : Array (Fin (K + 1))} {q q' : Nat} (h : d'.size = d.size) : (putRow encI ((putRow encI w blk off d).drewN q) blk off d').drewN q' = (putRow encI w blk off d').drewN (q + q') := by
  rw [← World.drewN_drewN, ← putRow_putRow encI w blk off d d' h]
  rfl
set_option maxRecDepth 20000 in
set_option maxHeartbeats 4000000 in
theorem rotate_any {K : Nat} (blk off cap a m b : Nat) (fv : Value) (d : Array (Fin (K + 1))) (w : World) (hH : Holds encI w blk off d) (ham : a < m) (hmb : m < b) (hb : b ≤ d.size) (hsz : d.size < 4611686018427387904) :
    Calls Try.prog 60 #[.slice (some ⟨blk, off, none⟩) d.size cap, .int .i64 a, .int .i64 m, .int .i64 b, fv] w fun e w' => e = .returned (.tuple #[]) ∧
      ∃ (q : Nat) (d' : Array (Fin (K + 1))), d'.size = d.size ∧ RotO (zOf d) (zOf d') a m b ∧ w' = (putRow encI w blk off d').drewN q := by
  have HST : Hid (w = (putRow encI w blk off d).drewN 0) := (putRow_self encI w blk off d hH).symm
  have HH : Hid (Holds encI w blk off d) := hH
  have HR0 := Lib.hid (rotF_start (z := zOf d) (Nat.le_of_lt ham) (Nat.le_of_lt hmb))
  have HRR := Lib.hid (rotF_rot (zOf d) (Nat.le_of_lt ham) (Nat.le_of_lt hmb))
  generalize hT : rotF (zOf d) a m b = T at *
  have HT := Lib.hid hT
  have HSR : Hid (∀ (a b n : Nat) (dk : Array (Fin (K + 1))) (W : World), Holds encI W blk off dk → a + n ≤ b → b + n ≤ dk.size → dk.size = d.size → Calls Try.prog 61 #[.slice (some ⟨blk, off, none⟩) d.size cap, .int .i64 a, .int .i64 b, .int .i64 n, fv] W fun e w' => e = .returned (.tuple #[]) ∧
      ∃ (q : Nat) (d' : Array (Fin (K + 1))), d'.size = d.size ∧ SwapO (zOf dk) (zOf d') a b n ∧ w' = (putRow encI W blk off d').drewN q) := fun a b n dk W h1 h2 h3 h4 => by
    have := swapRange_any blk off cap a b n fv dk W h1 h2 h3 (by omega)
    rw [h4] at this
    exact this
  clear hH hT
  have e1 : (m : Int) - (a : Int) = ((m - a : Nat) : Int) := by omega
  have e2 : (b : Int) - (m : Int) = ((b - m : Nat) : Int) := by omega
  go_enter Try.func60, Try.ntmps60
  go_wp2_with fail
  go_loopw [10, 11] (fun u v wr => ∃ (i j q : Nat) (dk : Array (Fin (K + 1))), u = .int .i64 (i : Int) ∧ v = .int .i64 (j : Int) ∧ 0 < i ∧ 0 < j ∧ i ≤ m - a ∧ j ≤ b - m ∧ dk.size = d.size ∧ RotI (zOf dk) T m i j ∧ wr = (putRow encI w blk off dk).drewN q) (fun u v _ => (intOf u).toNat + (intOf v).toNat)
  case atStart => exact ⟨m - a, b - m, 0, d, rfl, rfl, by omega, by omega, Nat.le_refl _, Nat.le_refl _, rfl, HR0.out, HST.out⟩
  case round =>
    obtain ⟨i, j, q, dk, rfl, rfl, hi, hj, him, hjm, hsk, hrot, rfl⟩ := hrel
    have HROT := Lib.hid hrot
    have HK : Hid (Holds encI ((putRow encI w blk off dk).drewN q) blk off dk) := holds_putRow encI w blk off d dk HH.out hsk
    have HRT : Hid (∀ (d' : Array (Fin (K + 1))) (q' : Nat), d'.size = d.size → (putRow encI ((putRow encI w blk off dk).drewN q) blk off d').drewN q' = (putRow encI w blk off d').drewN (q + q')) := fun d' q' h => row_two (by omega)
    have e3 : (m : Int) - (i : Int) = ((m - i : Nat) : Int) := by omega
    obtain ⟨M0, hM0⟩ : ∃ M0, m - i = M0 := ⟨_, rfl⟩
    rw [hM0] at e3
    clear hrot
    generalize hwq : (putRow encI w blk off dk).drewN q = wq at *
    clear hwq
    by_cases hij : i = j
    · subst hij
      have eb : ((i : Int) == (i : Int)) = true := by simp
      go_wp2_with fail
      refine (HSR.out M0 m i dk wq HK.out (by omega) (by omega) hsk).mono ?_
      rintro e w2 ⟨rfl, q2, d2, hs2, hsw, rfl⟩
      have HD := Lib.hid (HROT.out.done (by omega) (by rw [← hM0] at hsw; exact hsw))
      have HW2 := Lib.hid (HRT.out d2 q2 hs2)
      clear hsw
      go_wp2_with fail
      go_end0
      exact ⟨rfl, q + q2, d2, hs2, by rw [HD.out]; exact HRR.out, HW2.out⟩
    · have eb : ((i : Int) == (j : Int)) = false := by rw [beq_eq_false_iff_ne]; omega
      by_cases hgt : j < i
      · have eg : (j : Int) < (i : Int) := by omega
        have e4 : (i : Int) - (j : Int) = ((i - j : Nat) : Int) := by omega
        go_wp2_with fail
        refine (HSR.out M0 m j dk wq HK.out (by omega) (by omega) hsk).mono ?_
        rintro e w2 ⟨rfl, q2, d2, hs2, hsw, rfl⟩
        have HD := Lib.hid (HROT.out.left (by omega) hgt (by rw [← hM0] at hsw; exact hsw))
        have HW2 := Lib.hid (HRT.out d2 q2 hs2)
        clear hsw
        go_wp2_with fail
        go_roundw
        case rel => exact ⟨i - j, j, q + q2, d2, by go_num, by go_num, by omega, by omega, by omega, by omega, hs2, HD.out, HW2.out⟩
        case measure => simp [intOf]; omega
      · have eg : ¬ (j : Int) < (i : Int) := by omega
        have e4 : (j : Int) - (i : Int) = ((j - i : Nat) : Int) := by omega
        obtain ⟨M1, hM1⟩ : ∃ M1, m + j - i = M1 := ⟨_, rfl⟩
        have e5 : (m : Int) + (j : Int) - (i : Int) = (M1 : Int) := by omega
        go_wp2_with fail
        refine (HSR.out M0 M1 i dk wq HK.out (by omega) (by omega) hsk).mono ?_
        rintro e w2 ⟨rfl, q2, d2, hs2, hsw, rfl⟩
        have HD := Lib.hid (HROT.out.right (by omega) (by omega) (by rw [← hM0, ← hM1] at hsw; exact hsw))
        have HW2 := Lib.hid (HRT.out d2 q2 hs2)
        clear hsw
        go_wp2_with fail
        go_roundw
        case rel => exact ⟨i, j - i, q + q2, d2, by go_num, by go_num, by omega, by omega, by omega, by omega, hs2, HD.out, HW2.out⟩
        case measure => simp [intOf]; omega
end Go.Proofs.Ytkodnagneblgaaa
/- Plain: the ways of the library's merge. -/
namespace Go.Proofs.Ytkodnagneblgaaa
/-- what is asked of the order: it is transitive, and of two numbers one comes first -/
structure Ord (R : Int → Int → Prop) (D : Int → Prop) : Prop where
  tr : ∀ x y z, R x y → R y z → R x z
  tot : ∀ x y, D x → D y → x < y → R x y ∨ R y x
/-- all members stand in the domain -/
def DomO (D : Int → Prop) (z : Nat → Int) (a b : Nat) : Prop := ∀ i, a ≤ i → i < b → D (z i)
theorem DomO.mem {D : Int → Prop} {z z' : Nat → Int} {a b : Nat} (h : DomO D z a b) (hm : MemO z z' a b) : DomO D z' a b := fun i h1 h2 => by
  obtain ⟨j, j1, j2, e⟩ := hm.1 i h1 h2
  rw [e]
  exact h j j1 j2
variable {R : Int → Int → Prop} {D : Int → Prop}
/-- the single one on the left goes behind those that come first -/
theorem merge_left (ho : Ord R D) {z z' : Nat → Int} {a i b : Nat} (hi : a + 1 ≤ i) (hb : i ≤ b) (s2 : SortO R z (a + 1) b) (hc : CrossO z a (a + 1) b) (hd : DomO D z a b)
    (h1 : i = a + 1 ∨ R (z (i - 1)) (z a)) (h2 : i = b ∨ ¬ R (z i) (z a)) (hr : RotO z z' a (a + 1) i) : SortO R z' a b ∧ MemO z z' a b ∧ SameO z z' a b := by
  have H1 : ∀ k, a + 1 ≤ k → k < i → R (z k) (z a) := fun k k1 k2 => by
    rcases h1 with h | h
    · omega
    · by_cases e : k = i - 1
      · rw [e]; exact h
      · exact ho.tr _ _ _ (s2 k (i - 1) k1 (by omega) (by omega)) h
  have H2 : ∀ k, i ≤ k → k < b → R (z a) (z k) := fun k k1 k2 => by
    rcases h2 with h | h
    · omega
    · have hi2 : R (z a) (z i) := by
        rcases ho.tot (z a) (z i) (hd a (Nat.le_refl _) (by omega)) (hd i (by omega) (by omega)) (hc a i (Nat.le_refl _) (by omega) (by omega) (by omega)) with t | t
        · exact t
        · exact absurd t h
      by_cases e : k = i
      · rw [e]; exact hi2
      · exact ho.tr _ _ _ hi2 (s2 i k hi (by omega) k2)
  have r1 : ∀ x, x < i - (a + 1) → z' (a + x) = z (a + 1 + x) := hr.1
  have r2 : z' (a + (i - (a + 1))) = z a := by
    have := hr.2.1 0 (by omega)
    simpa using this
  refine ⟨fun p q hp hpq hq => ?_, (hr.mem (by omega) hi).widen hr.2.2 (Nat.le_refl _) hb, hr.2.2.widen (Nat.le_refl _) hb⟩
  have at_ : ∀ p, a ≤ p → p < b → (p < i - 1 ∧ z' p = z (p + 1)) ∨ (p = i - 1 ∧ z' p = z a) ∨ (i ≤ p ∧ z' p = z p) := fun p p1 p2 => by
    by_cases c1 : p < i - 1
    · refine .inl ⟨c1, ?_⟩
      have := r1 (p - a) (by omega)
      rwa [show a + (p - a) = p by omega, show a + 1 + (p - a) = p + 1 by omega] at this
    · by_cases c2 : p = i - 1
      · refine .inr (.inl ⟨c2, ?_⟩)
        rw [c2, show i - 1 = a + (i - (a + 1)) by omega]
        exact r2
      · exact .inr (.inr ⟨by omega, hr.2.2 p (.inr (by omega))⟩)
  rcases at_ p hp (by omega) with ⟨c, e⟩ | ⟨c, e⟩ | ⟨c, e⟩ <;> rcases at_ q (by omega) hq with ⟨c', e'⟩ | ⟨c', e'⟩ | ⟨c', e'⟩ <;> rw [e, e']
  · exact s2 _ _ (by omega) (by omega) (by omega)
  · exact H1 _ (by omega) (by omega)
  · exact s2 _ _ (by omega) (by omega) (by omega)
  · omega
  · omega
  · exact H2 _ c' hq
  · omega
  · omega
  · exact s2 _ _ (by omega) hpq hq
/-- the single one on the right goes ahead of those that come later -/
theorem merge_right (ho : Ord R D) {z z' : Nat → Int} {a i m : Nat} (hi : a ≤ i) (hm : i ≤ m) (s1 : SortO R z a m) (hc : CrossO z a m (m + 1)) (hd : DomO D z a (m + 1))
    (h1 : i = a ∨ ¬ R (z m) (z (i - 1))) (h2 : i = m ∨ R (z m) (z i)) (hr : RotO z z' i m (m + 1)) : SortO R z' a (m + 1) ∧ MemO z z' a (m + 1) ∧ SameO z z' a (m + 1) := by
  have H1 : ∀ k, a ≤ k → k < i → R (z k) (z m) := fun k k1 k2 => by
    rcases h1 with h | h
    · omega
    · have hi2 : R (z (i - 1)) (z m) := by
        rcases ho.tot (z (i - 1)) (z m) (hd _ (by omega) (by omega)) (hd m (by omega) (by omega)) (hc (i - 1) m (by omega) (by omega) (Nat.le_refl _) (by omega)) with t | t
        · exact t
        · exact absurd t h
      by_cases e : k = i - 1
      · rw [e]; exact hi2
      · exact ho.tr _ _ _ (s1 k (i - 1) k1 (by omega) (by omega)) hi2
  have H2 : ∀ k, i ≤ k → k < m → R (z m) (z k) := fun k k1 k2 => by
    rcases h2 with h | h
    · omega
    · by_cases e : k = i
      · rw [e]; exact h
      · exact ho.tr _ _ _ h (s1 i k hi (by omega) k2)
  have r1 : z' i = z m := by
    have := hr.1 0 (by omega)
    simpa using this
  have r2 : ∀ x, x < m - i → z' (i + 1 + x) = z (i + x) := fun x hx => by
    have := hr.2.1 x hx
    rwa [show i + (m + 1 - m) + x = i + 1 + x by omega] at this
  refine ⟨fun p q hp hpq hq => ?_, (hr.mem hm (by omega)).widen hr.2.2 hi (Nat.le_refl _), hr.2.2.widen hi (Nat.le_refl _)⟩
  have at_ : ∀ p, a ≤ p → p < m + 1 → (p < i ∧ z' p = z p) ∨ (p = i ∧ z' p = z m) ∨ (i < p ∧ z' p = z (p - 1)) := fun p p1 p2 => by
    by_cases c1 : p < i
    · exact .inl ⟨c1, hr.2.2 p (.inl c1)⟩
    · by_cases c2 : p = i
      · exact .inr (.inl ⟨c2, by rw [c2]; exact r1⟩)
      · refine .inr (.inr ⟨by omega, ?_⟩)
        have := r2 (p - (i + 1)) (by omega)
        rwa [show i + 1 + (p - (i + 1)) = p by omega, show i + (p - (i + 1)) = p - 1 by omega] at this
  rcases at_ p hp (by omega) with ⟨c, e⟩ | ⟨c, e⟩ | ⟨c, e⟩ <;> rcases at_ q (by omega) hq with ⟨c', e'⟩ | ⟨c', e'⟩ | ⟨c', e'⟩ <;> rw [e, e']
  · exact s1 _ _ hp hpq (by omega)
  · exact H1 _ hp c
  · exact s1 _ _ hp (by omega) (by omega)
  · omega
  · omega
  · exact H2 _ (by omega) (by omega)
  · omega
  · omega
  · exact s1 _ _ (by omega) (by omega) (by omega)
/-- behind the rotation: the two parts are sorted, and stand crosswise -/
theorem sym_parts {z z1 : Nat → Int} {a start m end' b mid : Nat} (h1 : a ≤ start) (h2 : start ≤ m) (h3 : m ≤ end') (h4 : end' ≤ b) (h5 : end' - m + start = mid)
    (s1 : SortO R z a m) (s2 : SortO R z m b) (hc : CrossO z a m b) (hr : RotO z z1 start m end') :
    SortO R z1 a start ∧ SortO R z1 start mid ∧ CrossO z1 a start mid ∧ SortO R z1 mid end' ∧ SortO R z1 end' b ∧ CrossO z1 mid end' b := by
  have eo : ∀ i, i < start ∨ end' ≤ i → z1 i = z i := fun i hi => hr.2.2 i hi
  have el : ∀ i, start ≤ i → i < mid → z1 i = z (m + (i - start)) := fun i i1 i2 => by
    have := hr.1 (i - start) (by omega)
    rwa [show start + (i - start) = i by omega] at this
  have er : ∀ i, mid ≤ i → i < end' → z1 i = z (start + (i - mid)) := fun i i1 i2 => by
    have := hr.2.1 (i - mid) (by omega)
    rwa [show start + (end' - m) + (i - mid) = i by omega] at this
  refine ⟨fun i j i1 ij j1 => ?_, fun i j i1 ij j1 => ?_, fun i j i1 i2 j1 j2 => ?_, fun i j i1 ij j1 => ?_, fun i j i1 ij j1 => ?_, fun i j i1 i2 j1 j2 => ?_⟩
  · rw [eo i (.inl (by omega)), eo j (.inl (by omega))]
    exact s1 i j i1 ij (by omega)
  · rw [el i i1 (by omega), el j (by omega) j1]
    exact s2 _ _ (by omega) (by omega) (by omega)
  · rw [eo i (.inl i2), el j j1 j2]
    exact hc _ _ i1 (by omega) (by omega) (by omega)
  · rw [er i i1 (by omega), er j (by omega) j1]
    exact s1 _ _ (by omega) (by omega) (by omega)
  · rw [eo i (.inr i1), eo j (.inr (by omega))]
    exact s2 _ _ (by omega) ij j1
  · rw [er i i1 i2, eo j (.inr j1)]
    exact hc _ _ (by omega) (by omega) (by omega) j2
theorem SortO.congr {z z' : Nat → Int} {a b : Nat} (h : SortO R z a b) (e : ∀ i, a ≤ i → i < b → z' i = z i) : SortO R z' a b := fun i j i1 ij j1 => by
  rw [e i i1 (by omega), e j (by omega) j1]; exact h i j i1 ij j1
theorem CrossO.congr {z z' : Nat → Int} {a m b : Nat} (h : CrossO z a m b) (e : ∀ i, a ≤ i → i < b → z' i = z i) (hm : a ≤ m) (_hb : m ≤ b) : CrossO z' a m b := fun i j i1 i2 j1 j2 => by
  rw [e i i1 (by omega), e j (by omega) j2]; exact h i j i1 i2 j1 j2
theorem SortO.short {z : Nat → Int} {a b : Nat} (h : b ≤ a + 1) : SortO R z a b := fun i j i1 ij j1 => by omega
/-- one step of moving a member behind -/
theorem RotO.grow {z z' : Nat → Int} {d : Nat → Int} {a k : Nat} (h : RotO z z' a (a + 1) (k + 1)) (hk : a ≤ k) (h1 : d k = z' (k + 1)) (h2 : d (k + 1) = z' k) (h3 : ∀ i, i ≠ k → i ≠ k + 1 → d i = z' i) : RotO z d a (a + 1) (k + 2) := by
  obtain ⟨r1, r2, r3⟩ := h
  have hz := r2 0 (by omega)
  refine ⟨fun x hx => ?_, fun x hx => ?_, fun i hi => ?_⟩
  · by_cases e : a + x = k
    · rw [e, h1, r3 (k + 1) (.inr (Nat.le_refl _)), show a + 1 + x = k + 1 by omega]
    · rw [h3 _ e (by omega)]
      exact r1 x (by omega)
  · obtain rfl : x = 0 := by omega
    rw [show a + (k + 2 - (a + 1)) + 0 = k + 1 by omega, h2]
    rw [show a + (k + 1 - (a + 1)) + 0 = k by omega] at hz
    exact hz
  · rw [h3 i (by omega) (by omega)]
    exact r3 i (by omega)
/-- one step of moving a member ahead -/
theorem RotO.back {z z' : Nat → Int} {d : Nat → Int} {k m : Nat} (h : RotO z z' (k + 1) m (m + 1)) (hk : k < m) (h1 : d k = z' (k + 1)) (h2 : d (k + 1) = z' k) (h3 : ∀ i, i ≠ k → i ≠ k + 1 → d i = z' i) : RotO z d k m (m + 1) := by
  obtain ⟨r1, r2, r3⟩ := h
  have hz := r1 0 (by omega)
  refine ⟨fun x hx => ?_, fun x hx => ?_, fun i hi => ?_⟩
  · obtain rfl : x = 0 := by omega
    rw [Nat.add_zero, h1]
    simpa using hz
  · by_cases e : x = 0
    · subst e
      rw [show k + (m + 1 - m) + 0 = k + 1 by omega, h2, r3 k (.inl (by omega))]
      rfl
    · rw [h3 _ (by omega) (by omega)]
      have := r2 (x - 1) (by omega)
      rwa [show k + 1 + (m + 1 - m) + (x - 1) = k + (m + 1 - m) + x by omega, show k + 1 + (x - 1) = k + x by omega] at this
  · rw [h3 i (by omega) (by omega)]
    exact r3 i (by omega)
end Go.Proofs.Ytkodnagneblgaaa
/- Walks: the library's merge, on a row of numbers. -/
namespace Go.Proofs.Ytkodnagneblgaaa
open Go.RowKit Go.Sort
attribute [local go_sem ↓] Go.wp_at_zero Go.wp_at_succ
/-- the comparison of two numbers, whatever the row holds -/
def CmpAt {K : Nat} (P : Program) (g : Nat) (cb : Array Value) (cf : Fin (K + 1) → Fin (K + 1) → Int) (w0 : World) (blk off N : Nat) : Prop :=
  ∀ (d : Array (Fin (K + 1))) (q : Nat), d.size = N → ∀ x y, Calls P g (#[encI x, encI y] ++ cb) ((putRow encI w0 blk off d).drewN q) fun e w' => e = .returned (.int .i64 (cf x y)) ∧ ∃ q', w' = ((putRow encI w0 blk off d).drewN q).drewN q'
theorem CmpAt.quiet {K : Nat} {P : Program} {g : Nat} {cb : Array Value} {cf : Fin (K + 1) → Fin (K + 1) → Int} {w0 : World} {blk off N : Nat} (h : CmpAt P g cb cf w0 blk off N) (d : Array (Fin (K + 1))) (q : Nat) (hd : d.size = N) (x y : Fin (K + 1)) :
    ∀ n, Calls P g (#[encI x, encI y] ++ cb) (((putRow encI w0 blk off d).drewN q).drewN n) fun e w' => e = .returned (.int .i64 (cf x y)) ∧ ∃ q', w' = (((putRow encI w0 blk off d).drewN q).drewN n).drewN q' := fun n => by
  have := h d (q + n) hd x y
  rw [← World.drewN_drewN] at this
  exact this
theorem mid_lt {i j : Nat} (h : i < j) : i ≤ (i + j) / 2 ∧ (i + j) / 2 < j := by omega
theorem half_int (i j h : Nat) (e : (i + j) / 2 = h) : ((i : Int) + (j : Int)) / 2 = (h : Int) := by omega
theorem val_lt {K : Nat} {x y : Fin (K + 1)} (h : (x.val : Int) < (y.val : Int)) : x.val < y.val := by omega
set_option maxRecDepth 20000 in
set_option maxHeartbeats 8000000 in
theorem sym_one (K : Nat) (xb : Nat) (cf : Fin (K + 1) → Fin (K + 1) → Int) (R : Int → Int → Prop) (D : Int → Prop) (ho : Ord R D) (w0 : World) (blk off cap : Nat) (d0 : Array (Fin (K + 1)))
    (hcf : ∀ x y : Fin (K + 1), x.val < y.val → (cf y x < 0 ↔ R (y.val : Int) (x.val : Int))) (hcmp : CmpAt Try.prog 51 #[.pointer (some ⟨xb, 0, none⟩)] cf w0 blk off d0.size) (hH : Holds encI w0 blk off d0) (hsz : d0.size < 4611686018427387904) (a m b q : Nat) (d : Array (Fin (K + 1))) (hN : d.size = d0.size)
    (ham : a + 1 = m) (hmb : m < b) (hb : b ≤ d0.size) (s2 : SortO R (zOf d) m b) (hc : CrossO (zOf d) a m b) (hd : DomO D (zOf d) a b) :
    Calls Try.prog 59 #[.slice (some ⟨blk, off, none⟩) d0.size cap, .int .i64 a, .int .i64 m, .int .i64 b, .func (.func 51) #[] #[.pointer (some ⟨xb, 0, none⟩)]] ((putRow encI w0 blk off d).drewN q) fun e w' => e = .returned (.tuple #[]) ∧
      ∃ (q' : Nat) (d' : Array (Fin (K + 1))), d'.size = d0.size ∧ SortO R (zOf d') a b ∧ MemO (zOf d) (zOf d') a b ∧ SameO (zOf d) (zOf d') a b ∧ w' = (putRow encI w0 blk off d').drewN q' := by
  have HH : Hid (Holds encI w0 blk off d0) := hH
  have HC : Hid (∀ (d : Array (Fin (K + 1))) (q : Nat), d.size = d0.size → ∀ x y n, _) := fun d q hd x y n => hcmp.quiet d q hd x y n
  have HCF := Lib.hid hcf
  have HO := Lib.hid ho
  have HS2 := Lib.hid s2
  have HCR := Lib.hid hc
  have HD := Lib.hid hd
  clear hH hcmp s2 hc hd hcf ho
  have e1 : (m : Int) - (a : Int) = 1 := by omega
  have HM := Lib.hid ham
  have ham' : a < m := by omega
  clear ham
  go_enter Try.func59, Try.ntmps59
  go_wp2_with fail
  go_loopw [10, 11] (fun u v wr => ∃ (i j n : Nat), u = .int .i64 (i : Int) ∧ v = .int .i64 (j : Int) ∧ m ≤ i ∧ i ≤ j ∧ j ≤ b ∧ (i = m ∨ R (zOf d (i - 1)) (zOf d a)) ∧ (j = b ∨ ¬ R (zOf d j) (zOf d a)) ∧ wr = (putRow encI w0 blk off d).drewN n) (fun u v _ => (intOf v).toNat - (intOf u).toNat)
  case atStart => exact ⟨m, b, q, rfl, rfl, Nat.le_refl _, by omega, Nat.le_refl _, .inl rfl, .inl rfl, rfl⟩
  case round =>
    obtain ⟨i, j, n, rfl, rfl, hmi, hij, hjb, hlo, hhi, rfl⟩ := hrel
    have HLO := Lib.hid hlo
    have HHI := Lib.hid hhi
    clear hlo hhi
    by_cases hlt : i < j
    · obtain ⟨h, hh⟩ : ∃ h, (i + j) / 2 = h := ⟨_, rfl⟩
      have eh := half_int i j h hh
      have hb1 := mid_lt hlt
      rw [hh] at hb1
      obtain ⟨hb1, hb2⟩ := hb1
      have HHK := holds_putRow encI w0 blk off d0 d HH.out hN
      obtain ⟨ca, fa⟩ := HHK (a) (by omega)
      have ca' : ((putRow encI w0 blk off d).drewN n).cell? ⟨blk, off + (a), none⟩ = some (encI d[a]!) := ca
      clear ca fa
      obtain ⟨ch, fh⟩ := HHK (h) (by omega)
      have ch' : ((putRow encI w0 blk off d).drewN n).cell? ⟨blk, off + (h), none⟩ = some (encI d[h]!) := ch
      clear ch fh
      have hcl := HC.out d n hN d[h]! d[a]!
      have HIF : Hid (cf d[h]! d[a]! < 0 ↔ R (zOf d h) (zOf d a)) := HCF.out d[a]! d[h]! (val_lt (HCR.out a h (Nat.le_refl _) ham' (by omega) (by omega)))
      have HW : Hid (∀ q', ((putRow encI w0 blk off d).drewN n).drewN q' = (putRow encI w0 blk off d).drewN (n + q')) := fun q' => World.drewN_drewN _ _ _
      clear HHK hh
      generalize cf d[h]! d[a]! = cv at *
      generalize (putRow encI w0 blk off d).drewN n = wq at *
      by_cases hcv : cv < 0
      · have HR1 := Lib.hid (HIF.out.1 hcv)
        have hdc : decide (cv < 0) = true := decide_eq_true hcv
        clear HIF
        go_wp2_with fail
        go_quiet (first | (go_at_call 51; refine Calls.quiet_of (hcl _)))
        go_wp2_with fail
        go_roundw
        case rel => exact ⟨h + 1, j, n + nq, by go_num, rfl, by omega, by omega, hjb, .inr (by rw [Nat.add_sub_cancel]; exact HR1.out), HHI.out, HW.out nq⟩
        case measure => simp [intOf]; omega
      · have HR1 := Lib.hid (fun h' => hcv (HIF.out.2 h'))
        have hdc : decide (cv < 0) = false := decide_eq_false hcv
        clear HIF
        go_wp2_with fail
        go_quiet (first | (go_at_call 51; refine Calls.quiet_of (hcl _)))
        go_wp2_with fail
        go_roundw
        case rel => exact ⟨i, h, n + nq, rfl, by go_num, hmi, by omega, by omega, HLO.out, .inr HR1.out, HW.out nq⟩
        case measure => simp [intOf]; omega
    · obtain rfl : i = j := by omega
      obtain ⟨i1, rfl⟩ : ∃ i1, i = i1 + 1 := ⟨i - 1, by omega⟩
      have e3 : ((i1 + 1 : Nat) : Int) - 1 = (i1 : Int) := by omega
      have e4 : (i1 : Int) + 1 - 1 = (i1 : Int) := by omega
      go_wp2_with fail
      go_loopw [13] (fun u wr => ∃ (k n : Nat) (dk : Array (Fin (K + 1))), u = .int .i64 (k : Int) ∧ a ≤ k ∧ k ≤ i1 ∧ dk.size = d0.size ∧ RotO (zOf d) (zOf dk) a m (k + 1) ∧ wr = (putRow encI w0 blk off dk).drewN n) (fun u _ => i1 - (intOf u).toNat)
      case atStart => exact ⟨a, n, d, rfl, Nat.le_refl _, by have := HM.out; omega, hN, RotO.none (.inr HM.out.symm), rfl⟩
      case round =>
        obtain ⟨k, n, dk, rfl, hak, hki, hsk, hrot, rfl⟩ := hrel
        have HROT := Lib.hid hrot
        clear hrot
        by_cases hlt2 : k < i1
        · have HNX : Hid (RotO (zOf d) (zOf (swp dk k (k + 1))) a m (k + 2)) := HM.out ▸ (HM.out ▸ HROT.out : RotO (zOf d) (zOf dk) a (a + 1) (k + 1)).grow hak
            (by unfold zOf; rw [swp_at (by omega) (by omega) (by omega), if_pos rfl]) (by unfold zOf; rw [swp_at (by omega) (by omega) (by omega), if_neg (by omega), if_pos rfl])
            (fun i h1 h2 => by unfold zOf; rw [swp_at (by omega) (by omega) (by omega), if_neg h1, if_neg h2])
          obtain ⟨k1, hk1⟩ : ∃ k1, k + 1 = k1 := ⟨_, rfl⟩
          have e5 : (k : Int) + 1 = (k1 : Int) := by omega
          have lA : (k : Int) < (d0.size : Int) := by omega
          have lB : (k1 : Int) < (d0.size : Int) := by omega
          rw [show k + 2 = k1 + 1 by omega, hk1] at HNX
          have HHK := holds_putRow encI w0 blk off d0 dk HH.out hsk
          obtain ⟨ca, fa⟩ := HHK k (by omega)
          obtain ⟨cb, fb⟩ := HHK k1 (by omega)
          have HSP := Lib.hid (swap_worldC encI w0 blk off dk n k k1 (by omega) (by omega))
          have HSZ := Lib.hid ((size_swp dk k k1).trans hsk)
          have ca' : ((putRow encI w0 blk off dk).drewN n).cell? ⟨blk, off + k, none⟩ = some (encI dk[k]!) := ca
          have cb' : ((putRow encI w0 blk off dk).drewN n).cell? ⟨blk, off + k1, none⟩ = some (encI dk[k1]!) := cb
          have fa' : ((putRow encI w0 blk off dk).drewN n).frozen? ⟨blk, off + k, none⟩ = false := fa
          have fb' : ((putRow encI w0 blk off dk).drewN n).frozen? ⟨blk, off + k1, none⟩ = false := fb
          have hAB : off + k ≠ off + k1 := by omega
          clear ca cb fa fb HHK
          generalize swp dk k k1 = d2 at *
          generalize dk[k]! = xa at *
          generalize dk[k1]! = xb' at *
          generalize hwq : (putRow encI w0 blk off dk).drewN n = wq at *
          clear hwq
          go_wp2_with fail
          go_big_region
          all_goals go_wp2_with fail
          go_roundw
          case rel => exact ⟨k1, n + 1, d2, by go_num, by omega, by omega, HSZ.out, HNX.out, HSP.out⟩
          case measure => simp [intOf]; omega
        · obtain rfl : k = i1 := by omega
          have HFIN : Hid (SortO R (zOf dk) a b ∧ MemO (zOf d) (zOf dk) a b ∧ SameO (zOf d) (zOf dk) a b) := by
            have hm := HM.out
            subst hm
            exact merge_left HO.out hmi hjb HS2.out HCR.out HD.out HLO.out HHI.out HROT.out
          go_wp2_with fail
          ((try simp only [Exit.inBlock, Exit.then]); refine bodyPost_ret (results_none rfl _ _ _) rfl ?_)
          exact ⟨rfl, n, dk, hsk, HFIN.out.1, HFIN.out.2.1, HFIN.out.2.2, rfl⟩
set_option maxRecDepth 20000 in
set_option maxHeartbeats 8000000 in
theorem sym_last (K : Nat) (xb : Nat) (cf : Fin (K + 1) → Fin (K + 1) → Int) (R : Int → Int → Prop) (D : Int → Prop) (ho : Ord R D) (w0 : World) (blk off cap : Nat) (d0 : Array (Fin (K + 1)))
    (hcf : ∀ x y : Fin (K + 1), x.val < y.val → (cf y x < 0 ↔ R (y.val : Int) (x.val : Int))) (hcmp : CmpAt Try.prog 51 #[.pointer (some ⟨xb, 0, none⟩)] cf w0 blk off d0.size) (hH : Holds encI w0 blk off d0) (hsz : d0.size < 4611686018427387904) (a m b q : Nat) (d : Array (Fin (K + 1))) (hN : d.size = d0.size)
    (ham : a + 1 < m) (hmb : m + 1 = b) (hb : b ≤ d0.size) (s1 : SortO R (zOf d) a m) (hc : CrossO (zOf d) a m b) (hd : DomO D (zOf d) a b) :
    Calls Try.prog 59 #[.slice (some ⟨blk, off, none⟩) d0.size cap, .int .i64 a, .int .i64 m, .int .i64 b, .func (.func 51) #[] #[.pointer (some ⟨xb, 0, none⟩)]] ((putRow encI w0 blk off d).drewN q) fun e w' => e = .returned (.tuple #[]) ∧
      ∃ (q' : Nat) (d' : Array (Fin (K + 1))), d'.size = d0.size ∧ SortO R (zOf d') a b ∧ MemO (zOf d) (zOf d') a b ∧ SameO (zOf d) (zOf d') a b ∧ w' = (putRow encI w0 blk off d').drewN q' := by
  have HH : Hid (Holds encI w0 blk off d0) := hH
  have HC : Hid (∀ (d : Array (Fin (K + 1))) (q : Nat), d.size = d0.size → ∀ x y n, _) := fun d q hd x y n => hcmp.quiet d q hd x y n
  have HCF := Lib.hid hcf
  have HO := Lib.hid ho
  have HS1 := Lib.hid s1
  have HCR := Lib.hid hc
  have HD := Lib.hid hd
  clear hH hcmp s1 hc hd hcf ho
  have e1 : ((m : Int) - (a : Int) == 1) = false := by rw [beq_eq_false_iff_ne]; omega
  have e2 : (b : Int) - (m : Int) = 1 := by omega
  have HM := Lib.hid hmb
  have hmb' : m < b := by omega
  clear hmb
  go_enter Try.func59, Try.ntmps59
  go_wp2_with fail
  go_loopw [14, 15] (fun u v wr => ∃ (i j n : Nat), u = .int .i64 (i : Int) ∧ v = .int .i64 (j : Int) ∧ a ≤ i ∧ i ≤ j ∧ j ≤ m ∧ (i = a ∨ ¬ R (zOf d m) (zOf d (i - 1))) ∧ (j = m ∨ R (zOf d m) (zOf d j)) ∧ wr = (putRow encI w0 blk off d).drewN n) (fun u v _ => (intOf v).toNat - (intOf u).toNat)
  case atStart => exact ⟨a, m, q, rfl, rfl, Nat.le_refl _, by omega, Nat.le_refl _, .inl rfl, .inl rfl, rfl⟩
  case round =>
    obtain ⟨i, j, n, rfl, rfl, hai, hij, hjm, hlo, hhi, rfl⟩ := hrel
    have HLO := Lib.hid hlo
    have HHI := Lib.hid hhi
    clear hlo hhi
    by_cases hlt : i < j
    · obtain ⟨h, hh⟩ : ∃ h, (i + j) / 2 = h := ⟨_, rfl⟩
      have eh := half_int i j h hh
      have hb1 := mid_lt hlt
      rw [hh] at hb1
      obtain ⟨hb1, hb2⟩ := hb1
      have HHK := holds_putRow encI w0 blk off d0 d HH.out hN
      obtain ⟨ca, fa⟩ := HHK (m) (by omega)
      have ca' : ((putRow encI w0 blk off d).drewN n).cell? ⟨blk, off + (m), none⟩ = some (encI d[m]!) := ca
      clear ca fa
      obtain ⟨ch, fh⟩ := HHK (h) (by omega)
      have ch' : ((putRow encI w0 blk off d).drewN n).cell? ⟨blk, off + (h), none⟩ = some (encI d[h]!) := ch
      clear ch fh
      have hcl := HC.out d n hN d[m]! d[h]!
      have HIF : Hid (cf d[m]! d[h]! < 0 ↔ R (zOf d m) (zOf d h)) := HCF.out d[h]! d[m]! (val_lt (HCR.out h m (by omega) (by omega) (Nat.le_refl _) (by omega)))
      have HW : Hid (∀ q', ((putRow encI w0 blk off d).drewN n).drewN q' = (putRow encI w0 blk off d).drewN (n + q')) := fun q' => World.drewN_drewN _ _ _
      clear HHK hh
      generalize cf d[m]! d[h]! = cv at *
      generalize (putRow encI w0 blk off d).drewN n = wq at *
      by_cases hcv : cv < 0
      · have HR1 := Lib.hid (HIF.out.1 hcv)
        have hdc : decide (cv < 0) = true := decide_eq_true hcv
        clear HIF
        go_wp2_with fail
        go_quiet (first | (go_at_call 51; refine Calls.quiet_of (hcl _)))
        go_wp2_with fail
        go_roundw
        case rel => exact ⟨i, h, n + nq, rfl, by go_num, hai, by omega, by omega, HLO.out, .inr HR1.out, HW.out nq⟩
        case measure => simp [intOf]; omega
      · have HR1 := Lib.hid (fun h' => hcv (HIF.out.2 h'))
        have hdc : decide (cv < 0) = false := decide_eq_false hcv
        clear HIF
        go_wp2_with fail
        go_quiet (first | (go_at_call 51; refine Calls.quiet_of (hcl _)))
        go_wp2_with fail
        go_roundw
        case rel => exact ⟨h + 1, j, n + nq, by go_num, rfl, by omega, by omega, hjm, .inr (by rw [Nat.add_sub_cancel]; exact HR1.out), HHI.out, HW.out nq⟩
        case measure => simp [intOf]; omega
    · obtain rfl : i = j := by omega
      go_wp2_with fail
      go_loopw [17] (fun u wr => ∃ (k n : Nat) (dk : Array (Fin (K + 1))), u = .int .i64 (k : Int) ∧ i ≤ k ∧ k ≤ m ∧ dk.size = d0.size ∧ RotO (zOf d) (zOf dk) k m b ∧ wr = (putRow encI w0 blk off dk).drewN n) (fun u _ => (intOf u).toNat)
      case atStart => exact ⟨m, n, d, rfl, by omega, Nat.le_refl _, hN, RotO.none (.inl rfl), rfl⟩
      case round =>
        obtain ⟨k, n, dk, rfl, hik, hkm, hsk, hrot, rfl⟩ := hrel
        have HROT := Lib.hid hrot
        clear hrot
        by_cases hlt2 : i < k
        · obtain ⟨k1, rfl⟩ : ∃ k1, k = k1 + 1 := ⟨k - 1, by omega⟩
          have HNX : Hid (RotO (zOf d) (zOf (swp dk (k1 + 1) k1)) k1 m b) := HM.out ▸ (HM.out ▸ HROT.out : RotO (zOf d) (zOf dk) (k1 + 1) m (m + 1)).back (by omega)
            (by unfold zOf; rw [swp_at (by omega) (by omega) (by omega), if_neg (by omega), if_pos rfl]) (by unfold zOf; rw [swp_at (by omega) (by omega) (by omega), if_pos rfl])
            (fun i h1 h2 => by unfold zOf; rw [swp_at (by omega) (by omega) (by omega), if_neg h2, if_neg h1])
          obtain ⟨k, hk1⟩ : ∃ k, k1 + 1 = k := ⟨_, rfl⟩
          have e5 : (k : Int) - 1 = (k1 : Int) := by omega
          have lA : (k : Int) < (d0.size : Int) := by omega
          have lB : (k1 : Int) < (d0.size : Int) := by omega
          have e6 : (i : Int) < (k : Int) := by omega
          rw [hk1] at HNX hik hkm
          rw [hk1]
          clear HROT
          have HHK := holds_putRow encI w0 blk off d0 dk HH.out hsk
          obtain ⟨ca, fa⟩ := HHK k (by omega)
          obtain ⟨cb, fb⟩ := HHK k1 (by omega)
          have HSP := Lib.hid (swap_worldC encI w0 blk off dk n k k1 (by omega) (by omega))
          have HSZ := Lib.hid ((size_swp dk k k1).trans hsk)
          have ca' : ((putRow encI w0 blk off dk).drewN n).cell? ⟨blk, off + k, none⟩ = some (encI dk[k]!) := ca
          have cb' : ((putRow encI w0 blk off dk).drewN n).cell? ⟨blk, off + k1, none⟩ = some (encI dk[k1]!) := cb
          have fa' : ((putRow encI w0 blk off dk).drewN n).frozen? ⟨blk, off + k, none⟩ = false := fa
          have fb' : ((putRow encI w0 blk off dk).drewN n).frozen? ⟨blk, off + k1, none⟩ = false := fb
          have hAB : off + k ≠ off + k1 := by omega
          clear ca cb fa fb HHK
          generalize swp dk k k1 = d2 at *
          generalize dk[k]! = xa at *
          generalize dk[k1]! = xb' at *
          generalize hwq : (putRow encI w0 blk off dk).drewN n = wq at *
          clear hwq
          go_wp2_with fail
          go_big_region
          all_goals go_wp2_with fail
          go_roundw
          case rel => exact ⟨k1, n + 1, d2, by go_num, by omega, by omega, HSZ.out, HNX.out, HSP.out⟩
          case measure => simp [intOf]; omega
        · obtain rfl : k = i := by omega
          have HFIN : Hid (SortO R (zOf dk) a b ∧ MemO (zOf d) (zOf dk) a b ∧ SameO (zOf d) (zOf dk) a b) := by
            have hm := HM.out
            subst hm
            exact merge_right HO.out hai hjm HS1.out HCR.out HD.out HLO.out HHI.out HROT.out
          go_wp2_with fail
          ((try simp only [Exit.inBlock, Exit.then]); refine bodyPost_ret (results_none rfl _ _ _) rfl ?_)
          exact ⟨rfl, n, dk, hsk, HFIN.out.1, HFIN.out.2.1, HFIN.out.2.2, rfl⟩
end Go.Proofs.Ytkodnagneblgaaa
