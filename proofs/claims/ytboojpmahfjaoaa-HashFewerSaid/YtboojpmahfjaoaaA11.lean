/- Walks: the sort of the buckets. -/
import Derived.Test.YtboojpmahfjaoaaA10
import Derived.Test.YtboojpmahfjaoaaB1
namespace Go.Proofs.Ytboojpmahfjaoaa
open Go.RowKit
attribute [local go_sem] Ext.cell Ext.frozen
theorem cells22' : Try.prog.cellsOf 22 = 1 := by kernel_rfl

/-- where the box PB holds the slice of the parts -/
structure PBox (w : World) (PB P0 m : Nat) (L : Nat → List ByteArray) : Prop where
  box : w.cell? ⟨PB, 0, none⟩ = some (.slice (some ⟨P0, 0, none⟩) m m)
  part : ∀ b, b < m → ∃ ad c, w.cell? ⟨P0, b, none⟩ = some (.slice ad (L b).length c)

theorem PBox.below {w w' : World} {PB P0 m : Nat} {L : Nat → List ByteArray} (h : PBox w PB P0 m L) (hf : ∀ a u, w.cell? a = some u → a.block = PB ∨ a.block = P0 → w'.cell? a = some u) : PBox w' PB P0 m L :=
  ⟨hf _ _ h.box (.inl rfl), fun b hb => by obtain ⟨ad, c, hc⟩ := h.part b hb; exact ⟨ad, c, hf _ _ hc (.inr rfl)⟩⟩

set_option maxHeartbeats 400000 in
theorem cmp_any (x y PB P0 m : Nat) (L : Nat → List ByteArray) (w : World) (h : PBox w PB P0 m L) (hx : x < m) (hy : y < m) (hlx : (L x).length ≤ 1000) (hly : (L y).length ≤ 1000) (_hm : m ≤ 1000) :
    Calls Try.prog 23 #[.int .i64 x, .int .i64 y, .pointer (some ⟨PB, 0, none⟩)] w fun e w' => e = .returned (.int .i64 (((L y).length : Int) - (L x).length)) ∧ ∃ n, w' = w.drewN n := by
  have hb := h.box
  obtain ⟨ax, cx, hcx⟩ := h.part x hx
  obtain ⟨ay, cy, hcy⟩ := h.part y hy
  have hx' : (x : Int) < (m : Int) := by omega
  have hy' : (y : Int) < (m : Int) := by omega
  go_enter Try.func23, Try.ntmps23
  go_wp2
  go_quiet (fail)
  go_wp2
  go_ret
  exact ⟨rfl, nq, rfl⟩

theorem PBox.drewN {w : World} {PB P0 m : Nat} {L : Nat → List ByteArray} (h : PBox w PB P0 m L) (n : Nat) : PBox (w.drewN n) PB P0 m L := h.below (fun _a _u hu _ => hu)

/-- block D holds the numbers a -/
def NumAt (w : World) (D m : Nat) (a : Nat → Nat) : Prop := ∀ i, i < m → w.cell? ⟨D, i, none⟩ = some (.int .i64 (a i : Nat)) ∧ w.frozen? ⟨D, i, none⟩ = false

theorem NumAt.swap {w : World} {D m : Nat} {a : Nat → Nat} (h : NumAt w D m a) {i j : Nat} (hi : i < m) (hj : j < m) (hij : i ≠ j) :
    NumAt ((w.setCell ⟨D, i, none⟩ (.int .i64 (a j : Nat))).setCell ⟨D, j, none⟩ (.int .i64 (a i : Nat))) D m (Ins.swap a i j) := by
  intro p hp
  refine ⟨?_, by simp [World.frozen?_setCell, (h p hp).2]⟩
  unfold Ins.swap
  have hsome : ∀ q, q < m → (w.cell? ⟨D, q, none⟩).isSome = true := fun q hq => by rw [(h q hq).1]; rfl
  by_cases hpi : p = i
  · subst hpi
    rw [if_pos rfl, World.cell?_setCell_other _ _ _ _ (by simp), World.cell?_setCell_same' _ _ _ (hsome p hp)]
  · by_cases hpj : p = j
    · subst hpj
      rw [if_neg hpi, if_pos rfl, World.cell?_setCell_same']
      rw [World.cell?_setCell_other _ _ _ _ (by simp)]
      exact hsome p hp
    · rw [if_neg hpi, if_neg hpj, World.cell?_setCell_other _ _ _ _ (by simp), World.cell?_setCell_other _ _ _ _ (by simp)]
      exact (h p hp).1

theorem NumAt.ix {m c D k : Nat} (hk : k < m) (W : World) : (Instr.indexAt 25 (.slice (some ⟨D, 0, none⟩) m c) (.int .i64 (k : Int))).run Try.prog W = .ok (.pointer (some ⟨D, k, none⟩)) W := by
  have h : SlAt W (some ⟨D, 0, none⟩) m (List.replicate m undef) D 0 → (Instr.indexAt 25 (.slice (some ⟨D, 0, none⟩) m c) (.int .i64 (k : Int))).run Try.prog W = .ok (.pointer (some ⟨D, 0 + k, none⟩)) W :=
    fun h => h.ix (P := Try.prog) (c := c) 25 3 Try.underlying25 cells3 hk W
  have hel : Try.prog.elem 25 = 3 := by simp [Program.elem, Try.underlying25]
  rw [run_indexAt_slice W 25 _ m c .i64 k (by rw [hel]; exact Try.underlying25), hel, if_pos (by omega)]
  have hs : (sizeOf 3).run Try.prog W = .ok 1 W := by
    obtain ⟨i0, hi, hz0, hz1, hz2⟩ := info_parts info3
    simp [sizeOf, typeInfo, hi, hz1]
  rw [hs]
  simp [Result.andThen, Addr.add]
  intro h0; subst h0; rfl

theorem grownBy_drewN {w w' : World} {r : Option Nat} (h : w.grownBy w' r) (n : Nat) : w.grownBy (w'.drewN n) r := ⟨h.os, h.tape, h.output, h.size, h.block⟩
theorem grownBy_setCell {w w' : World} {g : Nat} (h : w.grownBy w' (some g)) (i : Nat) (u : Value) : w.grownBy (w'.setCell ⟨g, i, none⟩ u) (some g) :=
  ⟨h.os, h.tape, h.output, by simpa [World.setCell] using h.size, fun k hk hne => (Below.heap_setCell w' _ _ k (fun e => hne (by rw [e]))).trans (h.block k hk hne)⟩

set_option maxHeartbeats 1000000 in
theorem insert_any (D c PB P0 m : Nat) (L : Nat → List ByteArray) (w : World) (h : PBox w PB P0 m L) (hD : NumAt w D m id) (hL : ∀ b, b < m → (L b).length ≤ 1000) (hm : m ≤ 1000) (h1 : 0 < m)
    (hDP : D ≠ PB) (hDP0 : D ≠ P0) (_hlt : D < w.heap.size) :
    Calls Try.prog 37 #[.slice (some ⟨D, 0, none⟩) m c, .int .i64 0, .int .i64 m, .func (.func 23) #[] #[.pointer (some ⟨PB, 0, none⟩)]] w fun e w' => e = .returned (.tuple #[]) ∧
      (∃ a, NumAt w' D m a ∧ Ins.Out (fun b => (L b).length) m m a) ∧ w.grownBy w' (some D) := by
  have HB := Lib.hid h
  have HL := Lib.hid hL
  have HD := Lib.hid hD
  clear h hL hD
  have keep : Hid (∀ wr : World, w.grownBy wr (some D) → PBox wr PB P0 m L) := fun wr hg => HB.out.below (fun a u hu hb => hg.cell hu (by
    rcases hb with hb | hb
    · rw [hb]; intro e; injection e with e; exact hDP e.symm
    · rw [hb]; intro e; injection e with e; exact hDP0 e.symm))
  go_enter Try.func37, Try.ntmps37
  go_wp2_with fail
  go_loopw [8] (fun i wr => ∃ (k : Nat) (a : Nat → Nat), 1 ≤ k ∧ k ≤ m ∧ i = .int .i64 k ∧ NumAt wr D m a ∧ Ins.Out (fun b => (L b).length) m k a ∧ w.grownBy wr (some D)) (fun i _ => m - (intOf i).toNat)
  case atStart => exact ⟨1, id, Nat.le_refl _, h1, rfl, HD.out, Ins.Out.one _ _, World.grownBy.refl _ _⟩
  case round =>
    obtain ⟨k, a, hk1, hk, rfl, hn, ho, hg⟩ := hrel
    have HN := Lib.hid hn
    have HO := Lib.hid ho
    have HG := Lib.hid hg
    clear hn ho hg
    obtain ⟨wo, rfl⟩ : ∃ wo : World, wo = wr := ⟨_, rfl⟩
    by_cases hlt2 : k < m
    · go_wp2_with fail
      go_loopw [9] (fun i wr => ∃ (j : Nat) (a : Nat → Nat), j ≤ k ∧ i = .int .i64 j ∧ NumAt wr D m a ∧ Ins.Inn (fun b => (L b).length) m k j a ∧ w.grownBy wr (some D)) (fun i _ => (intOf i).toNat)
      case atStart => exact ⟨k, a, Nat.le_refl _, rfl, HN.out, HO.out.inn hlt2, HG.out⟩
      case round =>
        obtain ⟨j, a', hj, rfl, hn, hi, hg⟩ := hrel
        have HN2 := Lib.hid hn
        have HI := Lib.hid hi
        have HG2 := Lib.hid hg
        by_cases hj0 : 0 < j
        · obtain ⟨j', rfl⟩ : ∃ j', j = j' + 1 := ⟨j - 1, by omega⟩
          have hx : a' (j' + 1) = k := hi.here
          have hy : a' j' < k := hi.lt j' (by omega) (by omega)
          have hlx := HL.out k hlt2
          have hly := HL.out (a' j') (by omega)
          have hbx := keep.out _ hg
          have HC := Lib.hid (fun W hW => cmp_any k (a' j') PB P0 m L W hW hlt2 (by omega) hlx hly hm)
          have HBX := Lib.hid hbx
          obtain ⟨hc1, hf1⟩ := hn (j' + 1) (by omega)
          obtain ⟨hc2, hf2⟩ := hn j' (by omega)
          rw [hx] at hc1
          have hj1 : j' + 1 < m := by omega
          have HSW : Hid (∀ nq, NumAt (((wr.drewN nq).setCell ⟨D, j' + 1, none⟩ (.int .i64 (a' j' : Nat))).setCell ⟨D, j', none⟩ (.int .i64 (k : Nat))) D m (Ins.swap a' (j' + 1) j')) := fun nq => by
            have := NumAt.swap (w := wr.drewN nq) (D := D) (m := m) (a := a') (fun i hi => hn i hi) hj1 (by omega) (show j' + 1 ≠ j' by omega)
            rw [hx] at this
            exact this
          have HSWI : Hid ((L (a' j')).length < (L k).length → Ins.Inn (fun b => (L b).length) m k j' (Ins.swap a' (j' + 1) j')) := fun hc => hi.swap (by omega) hc
          have HOUT : Hid ((L k).length ≤ (L (a' j')).length → Ins.Out (fun b => (L b).length) m (k + 1) a') := fun hc => hi.out (.inr hc)
          clear hn hi hg hx hbx
          generalize hyv : a' j' = y at *
          have HYV := Lib.hid hyv
          clear hyv
          by_cases hlen : (L y).length < (L k).length
          · have hd : decide (((L y).length : Int) - (L k).length < 0) = true := by simp; omega
            go_wp2_with fail
            go_quiet ((go_at_call 23; exact Calls.quiet_of (HC.out _ (HBX.out.drewN _))))
            go_wp2
            go_region
            go_wp2
            go_roundw
            case rel => exact ⟨j', _, by omega, by go_num, HSW.out (nq + 1), HSWI.out hlen, grownBy_setCell (grownBy_setCell (grownBy_drewN HG2.out _) _ _) _ _⟩
            case measure => simp [intOf]
          · have hd : decide (((L y).length : Int) - (L k).length < 0) = false := by simp; omega
            go_wp2_with fail
            go_quiet ((go_at_call 23; exact Calls.quiet_of (HC.out _ (HBX.out.drewN _))))
            go_wp2
            go_roundw
            case rel => exact ⟨k + 1, a', by omega, by omega, by go_num, HN2.out, HOUT.out (by omega), grownBy_drewN HG2.out _⟩
            case measure => simp [intOf]; omega
        · obtain rfl : j = 0 := by omega
          have HOUT := Lib.hid (hi.out (.inl rfl))
          clear hn hi hg
          go_wp2_with fail
          go_quiet (fail)
          go_wp2
          go_roundw
          case rel => exact ⟨k + 1, a', by omega, by omega, by go_num, HN2.out, HOUT.out, grownBy_drewN HG2.out _⟩
          case measure => simp [intOf]; omega
    · obtain rfl : k = m := by omega
      go_wp2
      go_end0
      exact ⟨rfl, ⟨a, HN.out, HO.out⟩, HG.out⟩

set_option maxHeartbeats 1000000 in
theorem stable_any (D c PB P0 m : Nat) (L : Nat → List ByteArray) (w : World) (h : PBox w PB P0 m L) (hD : NumAt w D m id) (hL : ∀ b, b < m → (L b).length ≤ 1000) (hm : m ≤ 19) (h1 : 0 < m)
    (hDP : D ≠ PB) (hDP0 : D ≠ P0) (hlt : D < w.heap.size) :
    Calls Try.prog 34 #[.slice (some ⟨D, 0, none⟩) m c, .int .i64 m, .func (.func 23) #[] #[.pointer (some ⟨PB, 0, none⟩)]] w fun e w' => e = .returned (.tuple #[]) ∧
      (∃ a, NumAt w' D m a ∧ Ins.Out (fun b => (L b).length) m m a) ∧ w.grownBy w' (some D) := by
  have HC := Lib.hid (insert_any D c PB P0 m L w h hD hL (by omega) h1 hDP hDP0 hlt)
  clear h hD hL
  go_enter Try.func34, Try.ntmps34
  go_wp2_with fail
  refine wp_loop_once ?_
  go_wp2_with fail
  refine HC.out.mono ?_
  rintro e w' ⟨rfl, hn, hg⟩
  have HN := Lib.hid hn
  clear hn
  go_wp2_with fail
  refine wp_loop_once ?_
  go_wp2_with fail
  go_end0
  exact ⟨rfl, HN.out, hg⟩

set_option maxHeartbeats 1000000 in
theorem sort_any (D c PB P0 m : Nat) (L : Nat → List ByteArray) (w : World) (h : PBox w PB P0 m L) (hD : NumAt w D m id) (hL : ∀ b, b < m → (L b).length ≤ 1000) (hm : m ≤ 19) (h1 : 0 < m)
    (hDP : D ≠ PB) (hDP0 : D ≠ P0) (hlt : D < w.heap.size) :
    Calls Try.prog 22 #[.slice (some ⟨D, 0, none⟩) m c, .func (.func 23) #[] #[.pointer (some ⟨PB, 0, none⟩)]] w fun e w' => e = .returned (.tuple #[]) ∧
      (∃ a, NumAt w' D m a ∧ Ins.Out (fun b => (L b).length) m m a) ∧ w.grownBy w' (some D) := by
  have HC := Lib.hid (stable_any D c PB P0 m L w h hD hL hm h1 hDP hDP0 hlt)
  clear h hD hL
  go_enter Try.func22, Try.ntmps22
  go_wp2_with fail
  refine HC.out.mono ?_
  rintro e w' ⟨rfl, hn, hg⟩
  have HN := Lib.hid hn
  clear hn
  go_wp2_with fail
  go_end0
  exact ⟨rfl, HN.out, hg⟩

/-- an empty order -/
theorem insert_nil (cmp : Value) (w : World) :
    Calls Try.prog 37 #[.slice none 0 0, .int .i64 0, .int .i64 0, cmp] w fun e w' => e = .returned (.tuple #[]) ∧ w = w' := by
  go_enter Try.func37, Try.ntmps37
  go_wp2_with fail
  refine wp_loop_once ?_
  go_wp2_with fail
  go_end0
  exact ⟨rfl, rfl⟩
theorem stable_nil (cmp : Value) (w : World) :
    Calls Try.prog 34 #[.slice none 0 0, .int .i64 0, cmp] w fun e w' => e = .returned (.tuple #[]) ∧ w = w' := by
  go_enter Try.func34, Try.ntmps34
  go_wp2_with fail
  refine wp_loop_once ?_
  go_wp2_with fail
  refine (insert_nil _ _).mono ?_
  rintro e w' ⟨rfl, rfl⟩
  go_wp2_with fail
  refine wp_loop_once ?_
  go_wp2_with fail
  go_end0
  exact ⟨rfl, rfl⟩
theorem sort_nil (cmp : Value) (w : World) :
    Calls Try.prog 22 #[.slice none 0 0, cmp] w fun e w' => e = .returned (.tuple #[]) ∧ w = w' := by
  go_enter Try.func22, Try.ntmps22
  go_wp2_with fail
  refine (stable_nil _ _).mono ?_
  rintro e w' ⟨rfl, rfl⟩
  go_wp2_with fail
  go_end0
  exact ⟨rfl, rfl⟩

end Go.Proofs.Ytboojpmahfjaoaa
