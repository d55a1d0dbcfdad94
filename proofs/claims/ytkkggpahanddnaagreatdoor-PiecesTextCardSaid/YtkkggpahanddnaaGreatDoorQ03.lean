/- Walks: the reference's layouts: Diff, Same, SameDocument. -/
import Derived.Test.YtkkggpahanddnaaGreatDoorQ02
import Derived.IntWalk
namespace Go.Proofs.YtkkggpahanddnaaGreatDoor
open Go.RowKit
attribute [local go_sem] Ext.cell Ext.frozen
attribute [local go_sem ↓] Go.wp_at_zero Go.wp_at_succ

/-- a layout is answered -/
def DiffPost (E : TypeId) (w : World) (ps : List (Int × ByteArray)) (e : Ending) (w' : World) : Prop :=
  ∃ ad c, e = .returned (.tuple #[.slice ad ps.length c, .int .i64 0]) ∧ w'.ownsRow w.heap.size E 2 (.slice ad ps.length c) ps.length (pcCells ps) ∧ Below w.heap.size w w'
/-- two layouts are the same -/
def sameP (ps qs : List (Int × ByteArray)) : Bool := decide (ps = qs)
theorem getD_extP {a b : List (Int × ByteArray)} (hl : a.length = b.length) (h : ∀ i, i < a.length → a.getD i (0, .empty) = b.getD i (0, .empty)) : a = b := by
  apply List.ext_getElem hl
  intro i h1 h2
  have := h i h1
  simpa [List.getD, List.getElem?_eq_getElem h1, List.getElem?_eq_getElem h2] using this
set_option maxRecDepth 20000 in
set_option maxHeartbeats 4000000 in
theorem same_any (ad : Option Addr) (n c : Nat) (ps : List (Int × ByteArray)) (ad' : Option Addr) (n' c' : Nat) (qs : List (Int × ByteArray)) (w : World) (hp : Pc w ad n ps) (hq : Pc w ad' n' qs) :
    Calls Tryz.prog 11 #[.slice ad n c, .slice ad' n' c'] w fun e w' => e = .returned (.bool (sameP ps qs)) ∧ Below w.heap.size w w' := by
  have hnm := hp.max
  have hnm' := hq.max
  obtain ⟨b, off, hp⟩ := hp
  obtain ⟨b', off', hq⟩ := hq
  have HL := Lib.hid hp.len
  have HL' := Lib.hid hq.len
  by_cases hn : n = n'
  · subst hn
    have HP := Lib.hid hp
    have HQ := Lib.hid hq
    clear hp hq
    go_enter Tryz.func11, Tryz.ntmps11
    go_wp2_with fail
    go_loopw [5] (fun i wr => ∃ (k : Nat), i = .int .i64 (k : Int) ∧ k ≤ n ∧ (∀ i, i < k → ps.getD i (0, .empty) = qs.getD i (0, .empty)) ∧ Below w.heap.size w wr) (fun i _ => n - (intOf i).toNat)
    case atStart => exact ⟨0, rfl, Nat.zero_le _, fun i hi => absurd hi (Nat.not_lt_zero _), Below.refl _ _⟩
    case round =>
      obtain ⟨k, rfl, hkn, hal, hbl⟩ := hrel
      have HAL := Lib.hid hal
      have HBL := Lib.hid hbl
      have hzr := hbl.size
      clear hal hbl
      by_cases hlt : k < n
      · have g1 := HP.out.below HBL.out
        have g2 := HQ.out.below HBL.out
        have hix1 := fun W => g1.ix 22 42 Tryz.underlying22 cellsRc hlt c W
        have hix2 := fun W => g2.ix 22 42 Tryz.underlying22 cellsRc hlt c' W
        have h10 := g1.c0 k hlt
        have h11 := g1.c1 k hlt
        have h20 := g2.c0 k hlt
        have h21 := g2.c1 k hlt
        clear g1 g2
        have HNX : Hid (ps.getD k (0, .empty) = qs.getD k (0, .empty) → ∀ i, i < k + 1 → ps.getD i (0, .empty) = qs.getD i (0, .empty)) := fun h i hi => by
          rcases Nat.lt_or_ge i k with h' | h'
          · exact HAL.out i h'
          · rw [show i = k by omega]; exact h
        have HNO : Hid (ps.getD k (0, .empty) ≠ qs.getD k (0, .empty) → sameP ps qs = false) := fun h => decide_eq_false (fun e => h (by rw [e]))
        generalize ps.getD k (0, .empty) = x at *
        generalize qs.getD k (0, .empty) = y at *
        obtain ⟨x0, x1⟩ := x
        obtain ⟨y0, y1⟩ := y
        simp only at h10 h11 h20 h21
        by_cases he : (x0, x1) = (y0, y1)
        · have HN := Lib.hid (HNX.out he)
          obtain ⟨rfl, rfl⟩ := Prod.mk.inj he
          clear HNX HNO he
          go_wp2_with fail
          go_quiet (fail)
          go_wp2_with fail
          go_roundw
          case rel => exact ⟨k + 1, by go_num, by omega, HN.out, HBL.out.trans ((below_drewN _ _).mono hzr)⟩
          case measure => simp [intOf]; omega
        · have HN := Lib.hid (HNO.out he)
          clear HNX HNO
          by_cases h0 : x0 = y0
          · subst h0
            have hne : (x1.toList == y1.toList) = false := by
              rw [ByteArray.toList_eq, ByteArray.toList_eq, beq_eq_false_iff_ne]
              exact fun e => he (by rw [ByteArray.ext (Array.toList_inj.1 e)])
            have hne2 : (x1.toList != y1.toList) = true := by unfold bne; rw [hne]; rfl
            have hne3 : ¬ x1 = y1 := fun e => he (by rw [e])
            clear he
            go_wp2_with fail
            go_quiet (fail)
            go_wp2_with fail
            go_ret
            exact ⟨by rw [HN.out]; rfl, HBL.out.trans ((below_drewN _ _).mono hzr)⟩
          · have h01 : (x0 == y0) = false := by simpa using h0
            have h02 : (x0 != y0) = true := by simpa using h0
            clear he
            go_wp2_with fail
            go_quiet (fail)
            go_wp2_with fail
            go_ret
            exact ⟨by rw [HN.out]; rfl, HBL.out.trans ((below_drewN _ _).mono hzr)⟩
      · obtain rfl : k = n := by omega
        have HS : Hid (sameP ps qs = true) := decide_eq_true (getD_extP (by rw [HL.out, HL'.out]) (fun i hi => HAL.out i (by rw [HL.out] at hi; exact hi)))
        go_wp2_with fail
        go_ret
        exact ⟨by rw [HS.out]; rfl, HBL.out⟩
  · have h1 : ((n : Int) != (n' : Int)) = true := by simp; omega
    have h2 : ¬ ((n : Int) = (n' : Int)) := by omega
    have HS : Hid (sameP ps qs = false) := decide_eq_false (fun e => hn (by rw [← HL.out, ← HL'.out, e]))
    clear hp hq
    go_enter Tryz.func11, Tryz.ntmps11
    go_wp2_with fail
    go_ret
    exact ⟨by rw [HS.out]; rfl, Below.refl _ _⟩
end Go.Proofs.YtkkggpahanddnaaGreatDoor
/- Walks: the reference's SameDocument, With, Valid, Apply. -/
namespace Go.Proofs.YtkkggpahanddnaaGreatDoor
open Go.RowKit
attribute [local go_sem] Ext.cell Ext.frozen
attribute [local go_sem ↓] Go.wp_at_zero Go.wp_at_succ

/-- a document's box behind three stores -/
theorem doc_set {w : World} {B : Nat} {a b c : Value} {T : TypeId} (hk : w.heap[B]? = some (.cells #[a, b, c] T (0, 0))) (x y z : Value) :
    (((w.setCell ⟨B, 0, none⟩ x).setCell ⟨B, 1, none⟩ y).setCell ⟨B, 2, none⟩ z).cell? ⟨B, 0, none⟩ = some x ∧ (((w.setCell ⟨B, 0, none⟩ x).setCell ⟨B, 1, none⟩ y).setCell ⟨B, 2, none⟩ z).cell? ⟨B, 1, none⟩ = some y ∧
    (((w.setCell ⟨B, 0, none⟩ x).setCell ⟨B, 1, none⟩ y).setCell ⟨B, 2, none⟩ z).cell? ⟨B, 2, none⟩ = some z := by
  have kr := row_set (row_set (row_set hk 0 x) 1 y) 2 z
  exact ⟨(row_cells kr 0).trans rfl, (row_cells kr 1).trans rfl, (row_cells kr 2).trans rfl⟩
theorem below_set3 {base : Nat} {w W : World} {B : Nat} (h : Below base w W) (hB : base ≤ B) (x y z : Value) : Below base w (((W.setCell ⟨B, 0, none⟩ x).setCell ⟨B, 1, none⟩ y).setCell ⟨B, 2, none⟩ z) :=
  ((h.setCell (p := ⟨B, 0, none⟩) hB x).setCell (p := ⟨B, 1, none⟩) hB y).setCell (p := ⟨B, 2, none⟩) hB z
theorem own_set3 {w : World} {base : Nat} {E T : TypeId} {size : Nat} {v : Value} {n : Nat} {xs : List Value} {B : Nat} {cs : Array Value} (hown : w.ownsRow base E size v n xs) (hk : w.heap[B]? = some (.cells cs T (0, 0))) (hTe : T ≠ E) (x y z : Value) :
    (((w.setCell ⟨B, 0, none⟩ x).setCell ⟨B, 1, none⟩ y).setCell ⟨B, 2, none⟩ z).ownsRow base E size v n xs :=
  own_set (own_set (own_set hown hk hTe 0 x) (row_set hk 0 x) hTe 1 y) (row_set (row_set hk 0 x) 1 y) hTe 2 z
/-- a store into a row of the call's own -/
theorem own_store {w : World} {base : Nat} {E : TypeId} {g n c : Nat} {xs : List Value} (h : w.ownsRow base E 1 (.slice (some ⟨g, 0, none⟩) n c) n xs) (i : Nat) (hi : i < n) (v : Value) :
    (w.setCell ⟨g, i, none⟩ v).ownsRow base E 1 (.slice (some ⟨g, 0, none⟩) n c) n (xs.set i v) := by
  refine ⟨by rw [List.length_set]; exact h.1, ?_⟩
  rcases h.2 with ⟨h1, h2⟩ | ⟨g', cap, cur, h1, h2, h3, h4, h5, h6, h7⟩
  · omega
  · injection h1 with e1 e2 e3
    injection e1 with e1
    injection e1 with e1
    subst e1
    subst e3
    refine .inr ⟨g, c, cur.setIfInBounds i v, rfl, h2, row_set h3 i v, h4, h5, by simpa using h6, ?_⟩
    rw [← h7, Nat.mul_one, Array.toList_setIfInBounds, List.take_set]
/-- .. its cells -/
theorem own_cell {w : World} {base : Nat} {E : TypeId} {g n c : Nat} {xs : List Value} (h : w.ownsRow base E 1 (.slice (some ⟨g, 0, none⟩) n c) n xs) (i : Nat) (hi : i < n) : w.cell? ⟨g, i, none⟩ = some (xs.getD i undef) ∧ w.frozen? ⟨g, i, none⟩ = false := by
  obtain ⟨g', e, _, _, _, _, hs, cur, hc, _⟩ := own_parts h (by omega)
  injection e with e
  injection e with e
  subst e
  exact ⟨by have := hs.cell i hi; rwa [Nat.zero_add] at this, row_frozen hc i⟩
theorem own_slat {w : World} {base : Nat} {E : TypeId} {g n c : Nat} {xs : List Value} (h : w.ownsRow base E 1 (.slice (some ⟨g, 0, none⟩) n c) n xs) (hn : 0 < n) : SlAt w (some ⟨g, 0, none⟩) n xs g 0 := by
  obtain ⟨g', e, _, _, _, _, hs, _⟩ := own_parts h hn
  injection e with e
  injection e with e
  subst e
  exact hs
theorem strs_set (l : List ByteArray) (i : Nat) (s : ByteArray) : (strs l).set i (.string s) = strs (l.set i s) := by simp [strs]
/-- two documents are the same -/
def sameD (l m : List ByteArray) : Bool := decide (l = m)
/-- a document and an error are answered -/
def DocErr (w : World) (h : ByteArray) (xs : List ByteArray) (t : ByteArray) (e : Ending) (w' : World) : Prop :=
  ∃ ad c, e = .returned (.tuple #[.agg #[.string h, .slice ad xs.length c, .string t], .int .i64 0]) ∧ w'.ownsRow w.heap.size 9 1 (.slice ad xs.length c) xs.length (strs xs) ∧ (ad = none → c = 0) ∧ Below w.heap.size w w'
end Go.Proofs.YtkkggpahanddnaaGreatDoor
/- Walks: whether a layout is valid, by the reference and by the program. -/
namespace Go.Proofs.YtkkggpahanddnaaGreatDoor
open Go.RowKit
attribute [local go_sem] Ext.cell Ext.frozen
attribute [local go_sem ↓] Go.wp_at_zero Go.wp_at_succ
theorem okAt_lo {ps : List (Int × ByteArray)} {n : Int} {k : Nat} (h : (ps.getD k (0, .empty)).1 < 0) : okAt ps n k = false := by
  unfold okAt; rw [decide_eq_false (by omega)]; rfl
theorem okAt_hi {ps : List (Int × ByteArray)} {n : Int} {k : Nat} (h : n < (ps.getD k (0, .empty)).1 - 1) : okAt ps n k = false := by
  unfold okAt; rw [decide_eq_false (p := (ps.getD k (0, .empty)).1 - 1 ≤ n) (by omega), Bool.and_false]; rfl
theorem okAt_ord {ps : List (Int × ByteArray)} {n : Int} {j : Nat} (h : (ps.getD (j + 1) (0, .empty)).1 ≤ (ps.getD j (0, .empty)).1) : okAt ps n (j + 1) = false := by
  unfold okAt
  rw [decide_eq_false (p := j + 1 = 0) (by omega), Nat.add_sub_cancel, decide_eq_false (p := (ps.getD j (0, .empty)).1 < (ps.getD (j + 1) (0, .empty)).1) (by omega)]
  simp
theorem okAt_first {ps : List (Int × ByteArray)} {n : Int} (h1 : 0 ≤ (ps.getD 0 (0, .empty)).1) (h2 : (ps.getD 0 (0, .empty)).1 - 1 ≤ n) : okAt ps n 0 = true := by
  unfold okAt; rw [decide_eq_true h1, decide_eq_true h2]; rfl
theorem okAt_next {ps : List (Int × ByteArray)} {n : Int} {j : Nat} (h1 : 0 ≤ (ps.getD (j + 1) (0, .empty)).1) (h2 : (ps.getD (j + 1) (0, .empty)).1 - 1 ≤ n) (h3 : (ps.getD j (0, .empty)).1 < (ps.getD (j + 1) (0, .empty)).1) : okAt ps n (j + 1) = true := by
  unfold okAt; rw [decide_eq_true h1, decide_eq_true h2, Nat.add_sub_cancel, decide_eq_true h3]; simp
theorem validV_end {ps : List (Int × ByteArray)} {n : Int} (h : ∀ i, i < ps.length → okAt ps n i = true) : validV ps n = true := by
  unfold validV
  rw [List.all_eq_true]
  exact fun i hi => h i (List.mem_range.1 hi)

set_option maxRecDepth 20000 in
set_option maxHeartbeats 8000000 in
theorem rvalid_any (ad : Option Addr) (m c : Nat) (ps : List (Int × ByteArray)) (n : Int) (w : World) (hp : Pc w ad m ps) (hbd : ∀ p ∈ ps, p.1 ≤ 9223372036854775807) :
    Calls Tryz.prog 18 #[.slice ad m c, .int .i64 n] w fun e w' => e = .returned (.bool (validV ps n)) ∧ Below w.heap.size w w' := by
  have hnm := hp.max
  have HL := Lib.hid hp.len
  obtain ⟨b, off, hp⟩ := hp
  have HP := Lib.hid hp
  have HBD := Lib.hid hbd
  clear hp hbd
  go_enter Tryz.func18, Tryz.ntmps18
  go_wp2_with fail
  go_loopw [5] (fun i wr => ∃ (k : Nat), i = .int .i64 (k : Int) ∧ k ≤ m ∧ (∀ i, i < k → okAt ps n i = true) ∧ Below w.heap.size w wr) (fun i _ => m - (intOf i).toNat)
  case atStart => exact ⟨0, rfl, Nat.zero_le _, fun i hi => absurd hi (Nat.not_lt_zero _), Below.refl _ _⟩
  case round =>
    obtain ⟨k, rfl, hkn, hal, hbl⟩ := hrel
    have HAL := Lib.hid hal
    have HBL := Lib.hid hbl
    have hzr := hbl.size
    clear hal hbl
    by_cases hlt : k < m
    · have g1 := HP.out.below HBL.out
      have hix1 := fun W => g1.ix 22 42 Tryz.underlying22 cellsRc hlt c W
      have h10 := g1.c0 k hlt
      have h11 := g1.c1 k hlt
      have hkl : k < ps.length := by rw [HL.out]; exact hlt
      have hx2 : (ps.getD k (0, .empty)).1 ≤ 9223372036854775807 := HBD.out _ (getD_mem ps k _ hkl)
      have HNX : Hid (okAt ps n k = true → ∀ i, i < k + 1 → okAt ps n i = true) := fun h i hi => by
        rcases Nat.lt_or_ge i k with h' | h'
        · exact HAL.out i h'
        · rw [show i = k by omega]; exact h
      have HNO : Hid (okAt ps n k = false → validV ps n = false) := fun h => validV_no hkl h
      have hb1 : b < wr.heap.size := g1.block (by omega)
      by_cases hx0 : (ps.getD k (0, .empty)).1 < 0
      · have HF := Lib.hid (HNO.out (okAt_lo hx0))
        clear HNX HNO g1 hkl
        generalize (ps.getD k (0, .empty)).1 = x at *
        generalize (ps.getD k (0, .empty)).2 = y at *
        go_wp2_with fail
        go_quiet (fail)
        go_wp2_with fail
        go_ret
        exact ⟨by rw [HF.out]; rfl, HBL.out.trans ((below_drewN _ _).mono hzr)⟩
      · have hx1 : 0 ≤ (ps.getD k (0, .empty)).1 := by omega
        by_cases hx3 : n < (ps.getD k (0, .empty)).1 - 1
        · have HF := Lib.hid (HNO.out (okAt_hi hx3))
          clear HNX HNO g1 hkl
          generalize (ps.getD k (0, .empty)).1 = x at *
          generalize (ps.getD k (0, .empty)).2 = y at *
          have dd0 : decide (x < 0) = false := decide_eq_false hx0
          have dd1 : decide (n < x - 1) = true := decide_eq_true hx3
          have HWR : Hid (IntKind.i64.wrap (x - 1) = x - 1) := IntWalk.i64_in _ (by omega)
          have hwr := HWR.out
          go_wp2_with fail
          go_quiet (fail)
          go_wp2_with fail
          clear hwr
          go_ret
          exact ⟨by rw [HF.out]; rfl, HBL.out.trans ((below_drewN _ _).mono hzr)⟩
        · have hx4 : (ps.getD k (0, .empty)).1 - 1 ≤ n := by omega
          cases k with
          | zero =>
            have HN := Lib.hid (HNX.out (okAt_first hx1 hx4))
            clear HNX HNO g1 hkl
            generalize (ps.getD 0 (0, .empty)).1 = x at *
            generalize (ps.getD 0 (0, .empty)).2 = y at *
            simp only [Int.natCast_zero, Nat.zero_mul, Nat.add_zero] at hix1 h10 h11
            have dd0 : decide (x < 0) = false := decide_eq_false hx0
            have dd1 : decide (n < x - 1) = false := decide_eq_false hx3
            have HWR : Hid (IntKind.i64.wrap (x - 1) = x - 1) := IntWalk.i64_in _ (by omega)
            have hwr := HWR.out
            go_wp2_with fail
            go_quiet (fail)
            go_wp2_with fail
            clear hwr
            go_roundw
            case rel => exact ⟨1, by go_num, by omega, HN.out, HBL.out.trans ((below_drewN _ _).mono hzr)⟩
            case measure => simp [intOf]; omega
          | succ j =>
            have hltj : j < m := by omega
            have hix2 := fun W => g1.ix 22 42 Tryz.underlying22 cellsRc hltj c W
            have h20 := g1.c0 j hltj
            have h21 := g1.c1 j hltj
            simp only [Int.natCast_add, Int.natCast_one] at hix1
            by_cases hx5 : (ps.getD (j + 1) (0, .empty)).1 ≤ (ps.getD j (0, .empty)).1
            · have HF := Lib.hid (HNO.out (okAt_ord hx5))
              clear HNX HNO g1 hkl
              generalize (ps.getD (j + 1) (0, .empty)).1 = x at *
              generalize (ps.getD (j + 1) (0, .empty)).2 = y at *
              generalize (ps.getD j (0, .empty)).1 = x' at *
              generalize (ps.getD j (0, .empty)).2 = y' at *
              have dd0 : decide (x < 0) = false := decide_eq_false hx0
              have dd1 : decide (n < x - 1) = false := decide_eq_false hx3
              have dd2 : decide ((0 : Int) < (j : Int) + 1) = true := decide_eq_true (by omega)
              have dd3 : decide (x ≤ x') = true := decide_eq_true hx5
              have HWR : Hid (IntKind.i64.wrap (x - 1) = x - 1) := IntWalk.i64_in _ (by omega)
              have HWJ : Hid (IntKind.i64.wrap ((j : Int) + 1 - 1) = (j : Int)) := by unfold Hid; rw [IntWalk.i64_in _ (by omega)]; omega
              have hwr := HWR.out
              have hwj := HWJ.out
              go_wp2_with fail
              go_quiet (fail)
              go_wp2_with fail
              clear hwr
              clear hwj
              go_ret
              exact ⟨by rw [HF.out]; rfl, HBL.out.trans ((below_drewN _ _).mono hzr)⟩
            · have hx6 : (ps.getD j (0, .empty)).1 < (ps.getD (j + 1) (0, .empty)).1 := by omega
              have HN := Lib.hid (HNX.out (okAt_next hx1 hx4 hx6))
              clear HNX HNO g1 hkl
              generalize (ps.getD (j + 1) (0, .empty)).1 = x at *
              generalize (ps.getD (j + 1) (0, .empty)).2 = y at *
              generalize (ps.getD j (0, .empty)).1 = x' at *
              generalize (ps.getD j (0, .empty)).2 = y' at *
              have dd0 : decide (x < 0) = false := decide_eq_false hx0
              have dd1 : decide (n < x - 1) = false := decide_eq_false hx3
              have dd2 : decide ((0 : Int) < (j : Int) + 1) = true := decide_eq_true (by omega)
              have dd3 : decide (x ≤ x') = false := decide_eq_false hx5
              have HWR : Hid (IntKind.i64.wrap (x - 1) = x - 1) := IntWalk.i64_in _ (by omega)
              have HWJ : Hid (IntKind.i64.wrap ((j : Int) + 1 - 1) = (j : Int)) := by unfold Hid; rw [IntWalk.i64_in _ (by omega)]; omega
              have hwr := HWR.out
              have hwj := HWJ.out
              go_wp2_with fail
              go_quiet (fail)
              go_wp2_with fail
              clear hwr
              clear hwj
              go_roundw
              case rel => exact ⟨j + 1 + 1, by go_num, by omega, HN.out, HBL.out.trans ((below_drewN _ _).mono hzr)⟩
              case measure => simp [intOf]; omega
    · obtain rfl : k = m := by omega
      have HS : Hid (validV ps n = true) := validV_end (fun i hi => HAL.out i (by rw [HL.out] at hi; exact hi))
      go_wp2_with fail
      go_ret
      exact ⟨by rw [HS.out]; rfl, HBL.out⟩

set_option maxRecDepth 20000 in
set_option maxHeartbeats 8000000 in
theorem pvalid_any (ad : Option Addr) (m c : Nat) (ps : List (Int × ByteArray)) (n : Int) (w : World) (hp : Pc w ad m ps) (hbd : ∀ p ∈ ps, p.1 ≤ 9223372036854775807) :
    Calls Tryz.prog 16 #[.slice ad m c, .int .i64 n] w fun e w' => e = .returned (.bool (validV ps n)) ∧ Below w.heap.size w w' := by
  have hnm := hp.max
  have HL := Lib.hid hp.len
  obtain ⟨b, off, hp⟩ := hp
  have HP := Lib.hid hp
  have HBD := Lib.hid hbd
  clear hp hbd
  go_enter Tryz.func16, Tryz.ntmps16
  go_wp2_with fail
  go_loopw [9] (fun i wr => ∃ (k : Nat), i = .int .i64 (k : Int) ∧ k ≤ m ∧ (∀ i, i < k → okAt ps n i = true) ∧ Below w.heap.size w wr) (fun i _ => m - (intOf i).toNat)
  case atStart => exact ⟨0, rfl, Nat.zero_le _, fun i hi => absurd hi (Nat.not_lt_zero _), Below.refl _ _⟩
  case round =>
    obtain ⟨k, rfl, hkn, hal, hbl⟩ := hrel
    have HAL := Lib.hid hal
    have HBL := Lib.hid hbl
    have hzr := hbl.size
    clear hal hbl
    by_cases hlt : k < m
    · have g1 := HP.out.below HBL.out
      have hix1 := fun W => g1.ix 25 43 Tryz.underlying25 cellsPc hlt c W
      have h10 := g1.c0 k hlt
      have h11 := g1.c1 k hlt
      have hkl : k < ps.length := by rw [HL.out]; exact hlt
      have hx2 : (ps.getD k (0, .empty)).1 ≤ 9223372036854775807 := HBD.out _ (getD_mem ps k _ hkl)
      have HNX : Hid (okAt ps n k = true → ∀ i, i < k + 1 → okAt ps n i = true) := fun h i hi => by
        rcases Nat.lt_or_ge i k with h' | h'
        · exact HAL.out i h'
        · rw [show i = k by omega]; exact h
      have HNO : Hid (okAt ps n k = false → validV ps n = false) := fun h => validV_no hkl h
      have hb1 : b < wr.heap.size := g1.block (by omega)
      by_cases hx0 : (ps.getD k (0, .empty)).1 < 0
      · have HF := Lib.hid (HNO.out (okAt_lo hx0))
        clear HNX HNO g1 hkl
        generalize (ps.getD k (0, .empty)).1 = x at *
        generalize (ps.getD k (0, .empty)).2 = y at *
        go_wp2_with fail
        go_quiet (fail)
        go_wp2_with fail
        go_ret
        exact ⟨by rw [HF.out]; rfl, HBL.out.trans (Below.trans ((Below.refl _ _).alloc (Nat.le_refl _) _) (below_drewN _ _ |>.mono (by simp)) |>.mono hzr)⟩
      · have hx1 : 0 ≤ (ps.getD k (0, .empty)).1 := by omega
        by_cases hx3 : n < (ps.getD k (0, .empty)).1 - 1
        · have HF := Lib.hid (HNO.out (okAt_hi hx3))
          clear HNX HNO g1 hkl
          generalize (ps.getD k (0, .empty)).1 = x at *
          generalize (ps.getD k (0, .empty)).2 = y at *
          have dd0 : decide (x < 0) = false := decide_eq_false hx0
          have dd1 : decide (n < x - 1) = true := decide_eq_true hx3
          have HWR : Hid (IntKind.i64.wrap (x - 1) = x - 1) := IntWalk.i64_in _ (by omega)
          have hwr := HWR.out
          go_wp2_with fail
          go_quiet (fail)
          go_wp2_with fail
          clear hwr
          go_ret
          exact ⟨by rw [HF.out]; rfl, HBL.out.trans (Below.trans ((Below.refl _ _).alloc (Nat.le_refl _) _) (below_drewN _ _ |>.mono (by simp)) |>.mono hzr)⟩
        · have hx4 : (ps.getD k (0, .empty)).1 - 1 ≤ n := by omega
          cases k with
          | zero =>
            have HN := Lib.hid (HNX.out (okAt_first hx1 hx4))
            clear HNX HNO g1 hkl
            generalize (ps.getD 0 (0, .empty)).1 = x at *
            generalize (ps.getD 0 (0, .empty)).2 = y at *
            simp only [Int.natCast_zero, Nat.zero_mul, Nat.add_zero] at hix1 h10 h11
            have dd0 : decide (x < 0) = false := decide_eq_false hx0
            have dd1 : decide (n < x - 1) = false := decide_eq_false hx3
            have HWR : Hid (IntKind.i64.wrap (x - 1) = x - 1) := IntWalk.i64_in _ (by omega)
            have hwr := HWR.out
            go_wp2_with fail
            go_quiet (fail)
            go_wp2_with fail
            clear hwr
            go_roundw
            case rel => exact ⟨1, by go_num, by omega, HN.out, HBL.out.trans (Below.trans ((Below.refl _ _).alloc (Nat.le_refl _) _) (below_drewN _ _ |>.mono (by simp)) |>.mono hzr)⟩
            case measure => simp [intOf]; omega
          | succ j =>
            have hltj : j < m := by omega
            have hix2 := fun W => g1.ix 25 43 Tryz.underlying25 cellsPc hltj c W
            have h20 := g1.c0 j hltj
            have h21 := g1.c1 j hltj
            simp only [Int.natCast_add, Int.natCast_one] at hix1
            by_cases hx5 : (ps.getD (j + 1) (0, .empty)).1 ≤ (ps.getD j (0, .empty)).1
            · have HF := Lib.hid (HNO.out (okAt_ord hx5))
              clear HNX HNO g1 hkl
              generalize (ps.getD (j + 1) (0, .empty)).1 = x at *
              generalize (ps.getD (j + 1) (0, .empty)).2 = y at *
              generalize (ps.getD j (0, .empty)).1 = x' at *
              generalize (ps.getD j (0, .empty)).2 = y' at *
              have dd0 : decide (x < 0) = false := decide_eq_false hx0
              have dd1 : decide (n < x - 1) = false := decide_eq_false hx3
              have dd2 : decide ((0 : Int) < (j : Int) + 1) = true := decide_eq_true (by omega)
              have dd3 : decide (x ≤ x') = true := decide_eq_true hx5
              have HWR : Hid (IntKind.i64.wrap (x - 1) = x - 1) := IntWalk.i64_in _ (by omega)
              have HWJ : Hid (IntKind.i64.wrap ((j : Int) + 1 - 1) = (j : Int)) := by unfold Hid; rw [IntWalk.i64_in _ (by omega)]; omega
              have hwr := HWR.out
              have hwj := HWJ.out
              go_wp2_with fail
              go_quiet (fail)
              go_wp2_with fail
              clear hwr
              clear hwj
              go_ret
              exact ⟨by rw [HF.out]; rfl, HBL.out.trans (Below.trans ((Below.refl _ _).alloc (Nat.le_refl _) _) (below_drewN _ _ |>.mono (by simp)) |>.mono hzr)⟩
            · have hx6 : (ps.getD j (0, .empty)).1 < (ps.getD (j + 1) (0, .empty)).1 := by omega
              have HN := Lib.hid (HNX.out (okAt_next hx1 hx4 hx6))
              clear HNX HNO g1 hkl
              generalize (ps.getD (j + 1) (0, .empty)).1 = x at *
              generalize (ps.getD (j + 1) (0, .empty)).2 = y at *
              generalize (ps.getD j (0, .empty)).1 = x' at *
              generalize (ps.getD j (0, .empty)).2 = y' at *
              have dd0 : decide (x < 0) = false := decide_eq_false hx0
              have dd1 : decide (n < x - 1) = false := decide_eq_false hx3
              have dd2 : decide ((0 : Int) < (j : Int) + 1) = true := decide_eq_true (by omega)
              have dd3 : decide (x ≤ x') = false := decide_eq_false hx5
              have HWR : Hid (IntKind.i64.wrap (x - 1) = x - 1) := IntWalk.i64_in _ (by omega)
              have HWJ : Hid (IntKind.i64.wrap ((j : Int) + 1 - 1) = (j : Int)) := by unfold Hid; rw [IntWalk.i64_in _ (by omega)]; omega
              have hwr := HWR.out
              have hwj := HWJ.out
              go_wp2_with fail
              go_quiet (fail)
              go_wp2_with fail
              clear hwr
              clear hwj
              go_roundw
              case rel => exact ⟨j + 1 + 1, by go_num, by omega, HN.out, HBL.out.trans (Below.trans ((Below.refl _ _).alloc (Nat.le_refl _) _) (below_drewN _ _ |>.mono (by simp)) |>.mono hzr)⟩
              case measure => simp [intOf]; omega
    · obtain rfl : k = m := by omega
      have HS : Hid (validV ps n = true) := validV_end (fun i hi => HAL.out i (by rw [HL.out] at hi; exact hi))
      go_wp2_with fail
      go_ret
      exact ⟨by rw [HS.out]; rfl, HBL.out⟩
end Go.Proofs.YtkkggpahanddnaaGreatDoor
/- Walks: the reference's Apply. -/
namespace Go.Proofs.YtkkggpahanddnaaGreatDoor
open Go.RowKit
attribute [local go_sem] Ext.cell Ext.frozen
attribute [local go_sem ↓] Go.wp_at_zero Go.wp_at_succ

theorem validV_at {ps : List (Int × ByteArray)} {n : Int} (h : validV ps n = true) {i : Nat} (hi : i < ps.length) : 0 ≤ (ps.getD i (0, .empty)).1 ∧ (ps.getD i (0, .empty)).1 - 1 ≤ n := by
  have := validV_iff.1 h i hi
  exact ⟨this.1, this.2.1⟩
end Go.Proofs.YtkkggpahanddnaaGreatDoor
/- Walks: the program's documents: Clone, set, With. -/
namespace Go.Proofs.YtkkggpahanddnaaGreatDoor
open Go.RowKit
attribute [local go_sem] Ext.cell Ext.frozen
attribute [local go_sem ↓] Go.wp_at_zero Go.wp_at_succ

theorem own_none {w : World} {base : Nat} {E : TypeId} {size : Nat} {ad : Option Addr} {n c : Nat} {xs : List Value} (h : w.ownsRow base E size (.slice ad n c) n xs) : ad = none → c = 0 := by
  intro e
  subst e
  rcases h.2 with ⟨e, _⟩ | ⟨g, cap, cur, e, _⟩
  · exact (Value.slice.inj e).2.2
  · cases (Value.slice.inj e).1
theorem own_some {w : World} {base : Nat} {E : TypeId} {size : Nat} {ad : Option Addr} {n c : Nat} {xs : List Value} (h : w.ownsRow base E size (.slice ad n c) n xs) (ha : ad ≠ none) : ∃ g, ad = some ⟨g, 0, none⟩ ∧ base ≤ g ∧ g < w.heap.size := by
  rcases h.2 with ⟨e, _⟩ | ⟨g, cap, cur, e, h2, h3, _⟩
  · exact absurd (Value.slice.inj e).1 ha
  · exact ⟨g, (Value.slice.inj e).1, h2, (Array.getElem?_eq_some_iff.1 h3).1⟩
/-- a variable that holds a document with a row of items of its own -/
def DocBox (w : World) (base B g c : Nat) (l : List ByteArray) : Prop :=
  ∃ h xs t, l = allV h xs t ∧ w.heap[B]? = some (.cells #[.string h, .slice (some ⟨g, 0, none⟩) xs.length c, .string t] 40 (0, 0)) ∧ w.ownsRow base 9 1 (.slice (some ⟨g, 0, none⟩) xs.length c) xs.length (strs xs)
theorem DocBox.lt {w : World} {base B g c : Nat} {l} (h : DocBox w base B g c l) : B < w.heap.size := by
  obtain ⟨_, _, _, _, hb, _⟩ := h
  exact (Array.getElem?_eq_some_iff.1 hb).1
theorem DocBox.row {w : World} {base B g c : Nat} {l} (h : DocBox w base B g c l) : base ≤ g ∧ g ≠ B := by
  obtain ⟨_, _, _, _, hb, ho⟩ := h
  obtain ⟨g', e, h1, _⟩ := own_some ho (fun e => by cases e)
  injection e with e
  injection e with e
  subst e
  have := own_other ho hb (by decide)
  exact ⟨h1, fun e => this (by rw [e]; rfl)⟩
theorem DocBox.below {w w' : World} {base B g c : Nat} {l} (h : DocBox w base B g c l) (hb : Below w.heap.size w w') : DocBox w' base B g c l := by
  have hB := h.lt
  obtain ⟨a, xs, t, e, h1, h2⟩ := h
  exact ⟨a, xs, t, e, (hb.block B hB).trans h1, Own.below h2 hb⟩
/-- what set does: one store, into the variable or its row -/
def SetPost (base B g c : Nat) (l : List ByteArray) (w : World) (e : Ending) (w' : World) : Prop :=
  e = .returned (.tuple #[]) ∧ DocBox w' base B g c l ∧ ∃ b o v, (b = B ∨ b = g) ∧ w' = w.setCell ⟨b, o, none⟩ v
end Go.Proofs.YtkkggpahanddnaaGreatDoor
/- Walks: the program's With and Apply. -/
namespace Go.Proofs.YtkkggpahanddnaaGreatDoor
open Go.RowKit
attribute [local go_sem] Ext.cell Ext.frozen
attribute [local go_sem ↓] Go.wp_at_zero Go.wp_at_succ

theorem SetPost.below {base B g c : Nat} {l : List ByteArray} {w w' w0 : World} {e : Ending} {b0 : Nat} (h : SetPost base B g c l w e w') (hb : Below b0 w0 w) (hB : b0 ≤ B) (hg : b0 ≤ g) : Below b0 w0 w' := by
  obtain ⟨_, _, b, o, v, hbo, rfl⟩ := h
  exact hb.setCell (p := ⟨b, o, none⟩) (by show b0 ≤ b; rcases hbo with rfl | rfl <;> assumption) v
theorem SetPost.block {base B g c : Nat} {l : List ByteArray} {w w' : World} {e : Ending} (h : SetPost base B g c l w e w') (k : Nat) (h1 : k ≠ B) (h2 : k ≠ g) : w'.heap[k]? = w.heap[k]? := by
  obtain ⟨_, _, b, o, v, hbo, rfl⟩ := h
  exact Below.heap_setCell w ⟨b, o, none⟩ v k (by show k ≠ b; rcases hbo with rfl | rfl <;> assumption)
end Go.Proofs.YtkkggpahanddnaaGreatDoor
