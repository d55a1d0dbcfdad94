/- Walks: the key that a value chooses, in the program and in the reference. -/
import Derived.Test.YtadhblppeaamlaaGreatDoorQ15
import Derived.Test.YtadhblppeaamlaaGreatDoorQ20
import Derived.Test.YtadhblppeaamlaaGreatDoorQ21
import Derived.Test.YtadhblppeaamlaaGreatDoorQ22
import Derived.Test.YtadhblppeaamlaaGreatDoorQ23
import Derived.Test.YtadhblppeaamlaaGreatDoorQ00
import Derived.Deep.RegionHeld3
namespace Go.Proofs.YtadhblppeaamlaaGreatDoor
open Go.RowKit
attribute [local go_sem] Ext.cell Ext.frozen
attribute [local go_sem ↓] Go.wp_at_zero Go.wp_at_succ

theorem firstK_cases (keys : List ByteArray) : ∀ l, firstK keys l = -1 ∨ ∃ j, j < keys.length ∧ firstK keys l = (j : Int)
  | [] => .inl rfl
  | a :: r => by
    by_cases h : a ∈ keys
    · exact .inr ⟨_, List.idxOf_lt_length_of_mem h, firstK_in h⟩
    · rw [firstK_out h]
      exact firstK_cases keys r
set_option maxRecDepth 20000 in
set_option maxHeartbeats 8000000 in
theorem ckey_any (x y : Nat → Value) (a b : List (ByteArray × List (List Rel))) (kind : Int) (kad : Option Addr) (kn kc : Nat) (keys : List ByteArray) (v : Vl) (w : World) (h : LocC w x a b) (hk : Sl w kad kn (strs keys)) (hv : ValC w y v) (ha : FewC a) (hb : FewC b) (hs : v.tx.size ≤ 1000) :
    Calls Tryz.prog 17 #[.agg #[x 0, x 1, x 2, x 3, x 4, x 5, x 6, x 7, x 8, x 9, x 10, x 11, x 12, x 13, x 14, x 15], .int .i64 kind, .slice kad kn kc, .agg #[y 0, y 1, y 2, y 3, y 4]] w fun e w' => e = .returned (.tuple #[.string (keyV kind (rulesV kind a b) keys v).1, .int .i64 ((keyV kind (rulesV kind a b) keys v).2 : Nat)]) ∧ Below w.heap.size w w' := by
  have HSL := Lib.hid (fun W => selection_any kind W)
  have HRU : Hid (∀ W, Calls Tryz.prog 26 #[.agg #[x 0, x 1, x 2, x 3, x 4, x 5, x 6, x 7, x 8, x 9, x 10, x 11, x 12, x 13, x 14, x 15], .int .i64 kind] W fun e w' => e = .returned (valR x kind) ∧ Below W.heap.size W w') := fun W => crules_any x kind W
  have HVA : Hid (∀ W, Below w.heap.size w W → Calls Tryz.prog 25 #[valR x kind] W fun e w' => e = .returned (.bool (validR (rulesV kind a b))) ∧ Below W.heap.size W w') := fun W g => pvalid_any _ _ W ((rules_at h kind).below g) (few_rules ha hb kind)
  have HSU : Hid (∀ W, Below w.heap.size w W → Calls Tryz.prog 27 #[.int .i64 kind, .agg #[y 0, y 1, y 2, y 3, y 4]] W fun e w' => e = .returned (.bool (suitV kind v)) ∧ Below W.heap.size W w') := fun W g => suitable_any y kind v W (hv.below g) hs
  have HIX : Hid (∀ W, Below w.heap.size w W → Calls Tryz.prog 28 #[.agg #[x 0, x 1, x 2, x 3, x 4, x 5, x 6, x 7, x 8, x 9, x 10, x 11, x 12, x 13, x 14, x 15], .int .i64 kind, .slice kad kn kc, .agg #[y 0, y 1, y 2, y 3, y 4]] W fun e w' => e = .returned (.int .i64 (firstK keys (wantV kind (rulesV kind a b) v.tx))) ∧ Below W.heap.size W w') := fun W g => cindex_any x y a b kind kad kn kc keys v W (h.below g) (hk.below g) (hv.below g) ha hb hs
  have hkn : keys.length = kn := by have := hk.len; rwa [strs_length] at this
  obtain ⟨kb, koff, hkr⟩ := hk
  have HKN := Lib.hid hkn
  have HKR := Lib.hid hkr
  have hkm := hkr.max
  clear h hv ha hb hs hkr hkn
  generalize valR x kind = vr at *
  generalize x 0 = x0 at *
  generalize x 1 = x1 at *
  generalize x 2 = x2 at *
  generalize x 3 = x3 at *
  generalize x 4 = x4 at *
  generalize x 5 = x5 at *
  generalize x 6 = x6 at *
  generalize x 7 = x7 at *
  generalize x 8 = x8 at *
  generalize x 9 = x9 at *
  generalize x 10 = x10 at *
  generalize x 11 = x11 at *
  generalize x 12 = x12 at *
  generalize x 13 = x13 at *
  generalize x 14 = x14 at *
  generalize x 15 = x15 at *
  generalize y 0 = y0 at *
  generalize y 1 = y1 at *
  generalize y 2 = y2 at *
  generalize y 3 = y3 at *
  generalize y 4 = y4 at *
  cases hsel : decide (7 ≤ kind ∧ kind ≤ 9) with
  | false =>
    have HO : Hid (keyV kind (rulesV kind a b) keys v = (.empty, 1)) := by
      have : ahead kind (rulesV kind a b) (some v) = 1 := if_pos (of_decide_eq_false hsel)
      unfold Hid keyV; rw [this]; rfl
    rw [Hid, hsel] at HSL
    replace HSL := Lib.hid HSL
    generalize keyV kind (rulesV kind a b) keys v = q at *
    clear hsel
    go_enter Tryz.func17, Tryz.ntmps17
    go_wp2_with fail
    refine (HSL.out _).mono ?_
    rintro e _ ⟨rfl, rfl⟩
    go_wp2_with fail
    go_ret2
    exact ⟨by rw [HO.out]; rfl, by show Bel w _; repeat (first | exact Bel.refl _ | refine Bel.drew ?_ | refine Bel.drewN ?_ _ | refine Bel.alloc ?_ _ | refine Bel.ext ?_ _)⟩
  | true =>
    have hsel2 : ¬ ¬ (7 ≤ kind ∧ kind ≤ 9) := fun h => h (of_decide_eq_true hsel)
    rw [Hid, hsel] at HSL
    replace HSL := Lib.hid HSL
    clear hsel
    cases hva : validR (rulesV kind a b) with
    | false =>
      have HO : Hid (keyV kind (rulesV kind a b) keys v = (.empty, 18)) := by
        have : ahead kind (rulesV kind a b) (some v) = 18 := by unfold ahead; rw [if_neg hsel2, if_pos hva]
        unfold Hid keyV; rw [this]; rfl
      rw [Hid, hva] at HVA
      replace HVA := Lib.hid HVA
      generalize keyV kind (rulesV kind a b) keys v = q at *
      clear hsel2 hva
      go_enter Tryz.func17, Tryz.ntmps17
      go_wp2_with fail
      refine (HSL.out _).mono ?_
      rintro e _ ⟨rfl, rfl⟩
      go_wp2_with fail
      refine (Calls.toExt (HRU.out _)).mono ?_
      rintro e _ ⟨rfl, u1, rfl⟩
      have hx1 : w.heap.size + 1 < u1.1.heap.size := by have := u1.2.size; simp at this; omega
      have hz1 : w.heap.size < u1.1.heap.size := by omega
      go_wp2_with fail
      refine (Calls.toExt (HVA.out _ ?_)).mono ?_
      · show Bel w _; repeat (first | exact Bel.refl _ | refine Bel.drew ?_ | refine Bel.drewN ?_ _ | refine Bel.alloc ?_ _ | refine Bel.ext ?_ _)
      rintro e _ ⟨rfl, u2, rfl⟩
      have hx2 : w.heap.size + 1 < u2.1.heap.size := by have := u2.2.size; omega
      have hz2 : w.heap.size < u2.1.heap.size := by omega
      go_wp2_with fail
      go_ret2
      exact ⟨by rw [HO.out]; rfl, by show Bel w _; repeat (first | exact Bel.refl _ | refine Bel.drew ?_ | refine Bel.drewN ?_ _ | refine Bel.alloc ?_ _ | refine Bel.ext ?_ _)⟩
    | true =>
      rw [Hid, hva] at HVA
      replace HVA := Lib.hid HVA
      cases hsu : suitV kind v with
      | false =>
        have HO : Hid (keyV kind (rulesV kind a b) keys v = (.empty, 11)) := by
          have : ahead kind (rulesV kind a b) (some v) = 11 := by unfold ahead; rw [if_neg hsel2, if_neg (by rw [hva]; simp)]; simp [hsu]
          unfold Hid keyV; rw [this]; rfl
        rw [Hid, hsu] at HSU
        replace HSU := Lib.hid HSU
        generalize keyV kind (rulesV kind a b) keys v = q at *
        clear hsel2 hva hsu
        go_enter Tryz.func17, Tryz.ntmps17
        go_wp2_with fail
        refine (HSL.out _).mono ?_
        rintro e _ ⟨rfl, rfl⟩
        go_wp2_with fail
        refine (Calls.toExt (HRU.out _)).mono ?_
        rintro e _ ⟨rfl, u1, rfl⟩
        have hx1 : w.heap.size + 1 < u1.1.heap.size := by have := u1.2.size; simp at this; omega
        have hz1 : w.heap.size < u1.1.heap.size := by omega
        go_wp2_with fail
        refine (Calls.toExt (HVA.out _ ?_)).mono ?_
        · show Bel w _; repeat (first | exact Bel.refl _ | refine Bel.drew ?_ | refine Bel.drewN ?_ _ | refine Bel.alloc ?_ _ | refine Bel.ext ?_ _)
        rintro e _ ⟨rfl, u2, rfl⟩
        have hx2 : w.heap.size + 1 < u2.1.heap.size := by have := u2.2.size; omega
        have hz2 : w.heap.size < u2.1.heap.size := by omega
        go_wp2_with fail
        refine (Calls.toExt (HSU.out _ ?_)).mono ?_
        · show Bel w _; repeat (first | exact Bel.refl _ | refine Bel.drew ?_ | refine Bel.drewN ?_ _ | refine Bel.alloc ?_ _ | refine Bel.ext ?_ _)
        rintro e _ ⟨rfl, u3, rfl⟩
        have hx3 : w.heap.size + 1 < u3.1.heap.size := by have := u3.2.size; omega
        have hz3 : w.heap.size < u3.1.heap.size := by omega
        go_wp2_with fail
        go_ret2
        exact ⟨by rw [HO.out]; rfl, by show Bel w _; repeat (first | exact Bel.refl _ | refine Bel.drew ?_ | refine Bel.drewN ?_ _ | refine Bel.alloc ?_ _ | refine Bel.ext ?_ _)⟩
      | true =>
        have HO2 : Hid (keyV kind (rulesV kind a b) keys v = if firstK keys (wantV kind (rulesV kind a b) v.tx) < 0 then (.empty, 13) else (keys.getD (firstK keys (wantV kind (rulesV kind a b) v.tx)).toNat .empty, 0)) := by
          have : ahead kind (rulesV kind a b) (some v) = 0 := by unfold ahead; rw [if_neg hsel2, if_neg (by rw [hva]; simp)]; simp [hsu]
          unfold Hid keyV; rw [this]; rfl
        rw [Hid, hsu] at HSU
        replace HSU := Lib.hid HSU
        generalize keyV kind (rulesV kind a b) keys v = q at *
        clear hsel2 hva hsu
        have hcs := firstK_cases keys (wantV kind (rulesV kind a b) v.tx)
        generalize wantV kind (rulesV kind a b) v.tx = ws at *
        generalize firstK keys ws = z at *
        rcases hcs with rfl | ⟨j, hj, rfl⟩
        · have HO : Hid (q = (.empty, 13)) := by rw [Hid, HO2, if_pos (by decide)]
          clear HO2
          go_enter Tryz.func17, Tryz.ntmps17
          go_wp2_with fail
          refine (HSL.out _).mono ?_
          rintro e _ ⟨rfl, rfl⟩
          go_wp2_with fail
          refine (Calls.toExt (HRU.out _)).mono ?_
          rintro e _ ⟨rfl, u1, rfl⟩
          have hx1 : w.heap.size + 1 < u1.1.heap.size := by have := u1.2.size; simp at this; omega
          have hz1 : w.heap.size < u1.1.heap.size := by omega
          go_wp2_with fail
          refine (Calls.toExt (HVA.out _ ?_)).mono ?_
          · show Bel w _; repeat (first | exact Bel.refl _ | refine Bel.drew ?_ | refine Bel.drewN ?_ _ | refine Bel.alloc ?_ _ | refine Bel.ext ?_ _)
          rintro e _ ⟨rfl, u2, rfl⟩
          have hx2 : w.heap.size + 1 < u2.1.heap.size := by have := u2.2.size; omega
          have hz2 : w.heap.size < u2.1.heap.size := by omega
          go_wp2_with fail
          refine (Calls.toExt (HSU.out _ ?_)).mono ?_
          · show Bel w _; repeat (first | exact Bel.refl _ | refine Bel.drew ?_ | refine Bel.drewN ?_ _ | refine Bel.alloc ?_ _ | refine Bel.ext ?_ _)
          rintro e _ ⟨rfl, u3, rfl⟩
          have hx3 : w.heap.size + 1 < u3.1.heap.size := by have := u3.2.size; omega
          have hz3 : w.heap.size < u3.1.heap.size := by omega
          go_wp2_with fail
          refine (Calls.toExt (HIX.out _ ?_)).mono ?_
          · show Bel w _; repeat (first | exact Bel.refl _ | refine Bel.drew ?_ | refine Bel.drewN ?_ _ | refine Bel.alloc ?_ _ | refine Bel.ext ?_ _)
          rintro e _ ⟨rfl, u4, rfl⟩
          skip
          go_wp2_with fail
          go_ret2
          exact ⟨by rw [HO.out]; rfl, by show Bel w _; repeat (first | exact Bel.refl _ | refine Bel.drew ?_ | refine Bel.drewN ?_ _ | refine Bel.alloc ?_ _ | refine Bel.ext ?_ _)⟩
        · have HO : Hid (q = (keys.getD j .empty, 0)) := by rw [Hid, HO2, if_neg (by omega), Int.toNat_natCast]
          have hjn : j < kn := by rw [← HKN.out]; exact hj
          have hixk := fun W => HKR.out.ix 28 9 Tryz.underlying28 (by kernel_rfl) hjn (c := kc) W
          have hck := HKR.out.cell j hjn
          rw [strs_getD _ _ hj] at hck
          have hkb : kb < w.heap.size := World.block_lt_of_cell? _ _ hck
          clear HO2 hj
          generalize keys.getD j .empty = kj at *
          go_enter Tryz.func17, Tryz.ntmps17
          go_wp2_with fail
          refine (HSL.out _).mono ?_
          rintro e _ ⟨rfl, rfl⟩
          go_wp2_with fail
          refine (Calls.toExt (HRU.out _)).mono ?_
          rintro e _ ⟨rfl, u1, rfl⟩
          have hx1 : w.heap.size + 1 < u1.1.heap.size := by have := u1.2.size; simp at this; omega
          have hz1 : w.heap.size < u1.1.heap.size := by omega
          go_wp2_with fail
          refine (Calls.toExt (HVA.out _ ?_)).mono ?_
          · show Bel w _; repeat (first | exact Bel.refl _ | refine Bel.drew ?_ | refine Bel.drewN ?_ _ | refine Bel.alloc ?_ _ | refine Bel.ext ?_ _)
          rintro e _ ⟨rfl, u2, rfl⟩
          have hx2 : w.heap.size + 1 < u2.1.heap.size := by have := u2.2.size; omega
          have hz2 : w.heap.size < u2.1.heap.size := by omega
          go_wp2_with fail
          refine (Calls.toExt (HSU.out _ ?_)).mono ?_
          · show Bel w _; repeat (first | exact Bel.refl _ | refine Bel.drew ?_ | refine Bel.drewN ?_ _ | refine Bel.alloc ?_ _ | refine Bel.ext ?_ _)
          rintro e _ ⟨rfl, u3, rfl⟩
          have hx3 : w.heap.size + 1 < u3.1.heap.size := by have := u3.2.size; omega
          have hz3 : w.heap.size < u3.1.heap.size := by omega
          go_wp2_with fail
          refine (Calls.toExt (HIX.out _ ?_)).mono ?_
          · show Bel w _; repeat (first | exact Bel.refl _ | refine Bel.drew ?_ | refine Bel.drewN ?_ _ | refine Bel.alloc ?_ _ | refine Bel.ext ?_ _)
          rintro e _ ⟨rfl, u4, rfl⟩
          have ck : u4.1.cell? ⟨kb, koff + j, none⟩ = some (.string kj) := (Below.cell (w := w) (by show Bel w _; repeat (first | exact Bel.refl _ | refine Bel.drew ?_ | refine Bel.drewN ?_ _ | refine Bel.alloc ?_ _ | refine Bel.ext ?_ _)) hkb).trans hck
          go_wp2_with fail
          go_ret2
          exact ⟨by rw [HO.out]; rfl, by show Bel w _; repeat (first | exact Bel.refl _ | refine Bel.drew ?_ | refine Bel.drewN ?_ _ | refine Bel.alloc ?_ _ | refine Bel.ext ?_ _)⟩
set_option maxRecDepth 20000 in
set_option maxHeartbeats 8000000 in
theorem rckey_any (x y : Nat → Value) (a b : List (ByteArray × List (List Rel))) (kind : Int) (kad : Option Addr) (kn kc : Nat) (keys : List ByteArray) (v : Vl) (w : World) (h : LocC w x a b) (hk : Sl w kad kn (strs keys)) (hv : ValC w y v) (ha : FewC a) (hb : FewC b) (hs : v.tx.size ≤ 1000) :
    Calls Tryz.prog 20 #[.agg #[x 0, x 1, x 2, x 3, x 4, x 5, x 6, x 7, x 8, x 9, x 10, x 11, x 12, x 13, x 14, x 15], .int .i64 kind, .slice kad kn kc, .agg #[y 0, y 1, y 2, y 3, y 4]] w fun e w' => e = .returned (.tuple #[.string (keyV kind (rulesV kind a b) keys v).1, .int .i64 ((keyV kind (rulesV kind a b) keys v).2 : Nat)]) ∧ Below w.heap.size w w' := by
  have HSL := Lib.hid (fun W => rselection_any kind W)
  have HRU : Hid (∀ W, Calls Tryz.prog 32 #[.agg #[x 0, x 1, x 2, x 3, x 4, x 5, x 6, x 7, x 8, x 9, x 10, x 11, x 12, x 13, x 14, x 15], .int .i64 kind] W fun e w' => e = .returned (valR x kind) ∧ Below W.heap.size W w') := fun W => rcrules_any x kind W
  have HVA : Hid (∀ W, Below w.heap.size w W → Calls Tryz.prog 31 #[valR x kind] W fun e w' => e = .returned (.bool (validR (rulesV kind a b))) ∧ Below W.heap.size W w') := fun W g => rvalidr_any _ _ W ((rules_at h kind).below g) (few_rules ha hb kind)
  have HSU : Hid (∀ W, Below w.heap.size w W → Calls Tryz.prog 33 #[.int .i64 kind, .agg #[y 0, y 1, y 2, y 3, y 4]] W fun e w' => e = .returned (.bool (suitV kind v)) ∧ Below W.heap.size W w') := fun W g => rsuitable_any y kind v W (hv.below g) hs
  have HWN : Hid (∀ W, Below w.heap.size w W → Calls Tryz.prog 35 #[.agg #[x 0, x 1, x 2, x 3, x 4, x 5, x 6, x 7, x 8, x 9, x 10, x 11, x 12, x 13, x 14, x 15], .int .i64 kind, .agg #[y 0, y 1, y 2, y 3, y 4]] W (WantP W (wantV kind (rulesV kind a b) v.tx))) := fun W g => rwanted_any x y a b kind v W (h.below g) (hv.below g) ha hb hs
  have HFI : Hid (∀ W, Below w.heap.size w W → ∀ ad n c, Sl W ad n (strs (wantV kind (rulesV kind a b) v.tx)) → Calls Tryz.prog 34 #[.slice kad kn kc, .slice ad n c] W fun e w' => e = .returned (.int .i64 (firstK keys (wantV kind (rulesV kind a b) v.tx))) ∧ Below W.heap.size W w') := fun W g ad n c hw => rfirst_any kad kn kc keys ad n c _ W (hk.below g) hw
  have hkn : keys.length = kn := by have := hk.len; rwa [strs_length] at this
  obtain ⟨kb, koff, hkr⟩ := hk
  have HKN := Lib.hid hkn
  have HKR := Lib.hid hkr
  have hkm := hkr.max
  clear h hv ha hb hs hkr hkn
  generalize valR x kind = vr at *
  generalize x 0 = x0 at *
  generalize x 1 = x1 at *
  generalize x 2 = x2 at *
  generalize x 3 = x3 at *
  generalize x 4 = x4 at *
  generalize x 5 = x5 at *
  generalize x 6 = x6 at *
  generalize x 7 = x7 at *
  generalize x 8 = x8 at *
  generalize x 9 = x9 at *
  generalize x 10 = x10 at *
  generalize x 11 = x11 at *
  generalize x 12 = x12 at *
  generalize x 13 = x13 at *
  generalize x 14 = x14 at *
  generalize x 15 = x15 at *
  generalize y 0 = y0 at *
  generalize y 1 = y1 at *
  generalize y 2 = y2 at *
  generalize y 3 = y3 at *
  generalize y 4 = y4 at *
  cases hsel : decide (7 ≤ kind ∧ kind ≤ 9) with
  | false =>
    have HO : Hid (keyV kind (rulesV kind a b) keys v = (.empty, 1)) := by
      have : ahead kind (rulesV kind a b) (some v) = 1 := if_pos (of_decide_eq_false hsel)
      unfold Hid keyV; rw [this]; rfl
    rw [Hid, hsel] at HSL
    replace HSL := Lib.hid HSL
    generalize keyV kind (rulesV kind a b) keys v = q at *
    clear hsel
    go_enter Tryz.func20, Tryz.ntmps20
    go_wp2_with fail
    refine (HSL.out _).mono ?_
    rintro e _ ⟨rfl, rfl⟩
    go_wp2_with fail
    go_ret2
    exact ⟨by rw [HO.out]; rfl, by show Bel w _; repeat (first | exact Bel.refl _ | refine Bel.drew ?_ | refine Bel.drewN ?_ _ | refine Bel.alloc ?_ _ | refine Bel.ext ?_ _)⟩
  | true =>
    have hsel2 : ¬ ¬ (7 ≤ kind ∧ kind ≤ 9) := fun h => h (of_decide_eq_true hsel)
    rw [Hid, hsel] at HSL
    replace HSL := Lib.hid HSL
    clear hsel
    cases hva : validR (rulesV kind a b) with
    | false =>
      have HO : Hid (keyV kind (rulesV kind a b) keys v = (.empty, 18)) := by
        have : ahead kind (rulesV kind a b) (some v) = 18 := by unfold ahead; rw [if_neg hsel2, if_pos hva]
        unfold Hid keyV; rw [this]; rfl
      rw [Hid, hva] at HVA
      replace HVA := Lib.hid HVA
      generalize keyV kind (rulesV kind a b) keys v = q at *
      clear hsel2 hva
      go_enter Tryz.func20, Tryz.ntmps20
      go_wp2_with fail
      refine (HSL.out _).mono ?_
      rintro e _ ⟨rfl, rfl⟩
      go_wp2_with fail
      refine (Calls.toExt (HRU.out _)).mono ?_
      rintro e _ ⟨rfl, u1, rfl⟩
      have hx1 : w.heap.size + 1 < u1.1.heap.size := by have := u1.2.size; simp at this; omega
      have hz1 : w.heap.size < u1.1.heap.size := by omega
      go_wp2_with fail
      refine (Calls.toExt (HVA.out _ ?_)).mono ?_
      · show Bel w _; repeat (first | exact Bel.refl _ | refine Bel.drew ?_ | refine Bel.drewN ?_ _ | refine Bel.alloc ?_ _ | refine Bel.ext ?_ _)
      rintro e _ ⟨rfl, u2, rfl⟩
      have hx2 : w.heap.size + 1 < u2.1.heap.size := by have := u2.2.size; omega
      have hz2 : w.heap.size < u2.1.heap.size := by omega
      go_wp2_with fail
      go_ret2
      exact ⟨by rw [HO.out]; rfl, by show Bel w _; repeat (first | exact Bel.refl _ | refine Bel.drew ?_ | refine Bel.drewN ?_ _ | refine Bel.alloc ?_ _ | refine Bel.ext ?_ _)⟩
    | true =>
      rw [Hid, hva] at HVA
      replace HVA := Lib.hid HVA
      cases hsu : suitV kind v with
      | false =>
        have HO : Hid (keyV kind (rulesV kind a b) keys v = (.empty, 11)) := by
          have : ahead kind (rulesV kind a b) (some v) = 11 := by unfold ahead; rw [if_neg hsel2, if_neg (by rw [hva]; simp)]; simp [hsu]
          unfold Hid keyV; rw [this]; rfl
        rw [Hid, hsu] at HSU
        replace HSU := Lib.hid HSU
        generalize keyV kind (rulesV kind a b) keys v = q at *
        clear hsel2 hva hsu
        go_enter Tryz.func20, Tryz.ntmps20
        go_wp2_with fail
        refine (HSL.out _).mono ?_
        rintro e _ ⟨rfl, rfl⟩
        go_wp2_with fail
        refine (Calls.toExt (HRU.out _)).mono ?_
        rintro e _ ⟨rfl, u1, rfl⟩
        have hx1 : w.heap.size + 1 < u1.1.heap.size := by have := u1.2.size; simp at this; omega
        have hz1 : w.heap.size < u1.1.heap.size := by omega
        go_wp2_with fail
        refine (Calls.toExt (HVA.out _ ?_)).mono ?_
        · show Bel w _; repeat (first | exact Bel.refl _ | refine Bel.drew ?_ | refine Bel.drewN ?_ _ | refine Bel.alloc ?_ _ | refine Bel.ext ?_ _)
        rintro e _ ⟨rfl, u2, rfl⟩
        have hx2 : w.heap.size + 1 < u2.1.heap.size := by have := u2.2.size; omega
        have hz2 : w.heap.size < u2.1.heap.size := by omega
        go_wp2_with fail
        refine (Calls.toExt (HSU.out _ ?_)).mono ?_
        · show Bel w _; repeat (first | exact Bel.refl _ | refine Bel.drew ?_ | refine Bel.drewN ?_ _ | refine Bel.alloc ?_ _ | refine Bel.ext ?_ _)
        rintro e _ ⟨rfl, u3, rfl⟩
        have hx3 : w.heap.size + 1 < u3.1.heap.size := by have := u3.2.size; omega
        have hz3 : w.heap.size < u3.1.heap.size := by omega
        go_wp2_with fail
        go_ret2
        exact ⟨by rw [HO.out]; rfl, by show Bel w _; repeat (first | exact Bel.refl _ | refine Bel.drew ?_ | refine Bel.drewN ?_ _ | refine Bel.alloc ?_ _ | refine Bel.ext ?_ _)⟩
      | true =>
        have HO2 : Hid (keyV kind (rulesV kind a b) keys v = if firstK keys (wantV kind (rulesV kind a b) v.tx) < 0 then (.empty, 13) else (keys.getD (firstK keys (wantV kind (rulesV kind a b) v.tx)).toNat .empty, 0)) := by
          have : ahead kind (rulesV kind a b) (some v) = 0 := by unfold ahead; rw [if_neg hsel2, if_neg (by rw [hva]; simp)]; simp [hsu]
          unfold Hid keyV; rw [this]; rfl
        rw [Hid, hsu] at HSU
        replace HSU := Lib.hid HSU
        generalize keyV kind (rulesV kind a b) keys v = q at *
        clear hsel2 hva hsu
        have hcs := firstK_cases keys (wantV kind (rulesV kind a b) v.tx)
        generalize wantV kind (rulesV kind a b) v.tx = ws at *
        generalize firstK keys ws = z at *
        rcases hcs with rfl | ⟨j, hj, rfl⟩
        · have HO : Hid (q = (.empty, 13)) := by rw [Hid, HO2, if_pos (by decide)]
          clear HO2
          go_enter Tryz.func20, Tryz.ntmps20
          go_wp2_with fail
          refine (HSL.out _).mono ?_
          rintro e _ ⟨rfl, rfl⟩
          go_wp2_with fail
          refine (Calls.toExt (HRU.out _)).mono ?_
          rintro e _ ⟨rfl, u1, rfl⟩
          have hx1 : w.heap.size + 1 < u1.1.heap.size := by have := u1.2.size; simp at this; omega
          have hz1 : w.heap.size < u1.1.heap.size := by omega
          go_wp2_with fail
          refine (Calls.toExt (HVA.out _ ?_)).mono ?_
          · show Bel w _; repeat (first | exact Bel.refl _ | refine Bel.drew ?_ | refine Bel.drewN ?_ _ | refine Bel.alloc ?_ _ | refine Bel.ext ?_ _)
          rintro e _ ⟨rfl, u2, rfl⟩
          have hx2 : w.heap.size + 1 < u2.1.heap.size := by have := u2.2.size; omega
          have hz2 : w.heap.size < u2.1.heap.size := by omega
          go_wp2_with fail
          refine (Calls.toExt (HSU.out _ ?_)).mono ?_
          · show Bel w _; repeat (first | exact Bel.refl _ | refine Bel.drew ?_ | refine Bel.drewN ?_ _ | refine Bel.alloc ?_ _ | refine Bel.ext ?_ _)
          rintro e _ ⟨rfl, u3, rfl⟩
          have hx3 : w.heap.size + 1 < u3.1.heap.size := by have := u3.2.size; omega
          have hz3 : w.heap.size < u3.1.heap.size := by omega
          go_wp2_with fail
          refine (HWN.out _ ?_).mono ?_
          · show Bel w _; repeat (first | exact Bel.refl _ | refine Bel.drew ?_ | refine Bel.drewN ?_ _ | refine Bel.alloc ?_ _ | refine Bel.ext ?_ _)
          rintro e w4 ⟨ad4, n4, c4, rfl, hsl4, hb4⟩
          have HB4 : Hid (Below w.heap.size w w4) := Below.trans (by show Bel w _; repeat (first | exact Bel.refl _ | refine Bel.drew ?_ | refine Bel.drewN ?_ _ | refine Bel.alloc ?_ _ | refine Bel.ext ?_ _)) (hb4.mono (by omega))
          have HSL4 := Lib.hid hsl4
          clear hsl4 hb4
          go_wp2_with fail
          refine (Calls.toExt (HFI.out _ HB4.out _ _ _ HSL4.out)).mono ?_
          rintro e _ ⟨rfl, u4, rfl⟩
          have HB5 : Hid (Below w.heap.size w u4.1) := Bel.ext HB4.out u4
          skip
          go_wp2_with fail
          go_ret2
          exact ⟨by rw [HO.out]; rfl, HB5.out⟩
        · have HO : Hid (q = (keys.getD j .empty, 0)) := by rw [Hid, HO2, if_neg (by omega), Int.toNat_natCast]
          have hjn : j < kn := by rw [← HKN.out]; exact hj
          have hixk := fun W => HKR.out.ix 28 9 Tryz.underlying28 (by kernel_rfl) hjn (c := kc) W
          have hck := HKR.out.cell j hjn
          rw [strs_getD _ _ hj] at hck
          have hkb : kb < w.heap.size := World.block_lt_of_cell? _ _ hck
          clear HO2 hj
          generalize keys.getD j .empty = kj at *
          go_enter Tryz.func20, Tryz.ntmps20
          go_wp2_with fail
          refine (HSL.out _).mono ?_
          rintro e _ ⟨rfl, rfl⟩
          go_wp2_with fail
          refine (Calls.toExt (HRU.out _)).mono ?_
          rintro e _ ⟨rfl, u1, rfl⟩
          have hx1 : w.heap.size + 1 < u1.1.heap.size := by have := u1.2.size; simp at this; omega
          have hz1 : w.heap.size < u1.1.heap.size := by omega
          go_wp2_with fail
          refine (Calls.toExt (HVA.out _ ?_)).mono ?_
          · show Bel w _; repeat (first | exact Bel.refl _ | refine Bel.drew ?_ | refine Bel.drewN ?_ _ | refine Bel.alloc ?_ _ | refine Bel.ext ?_ _)
          rintro e _ ⟨rfl, u2, rfl⟩
          have hx2 : w.heap.size + 1 < u2.1.heap.size := by have := u2.2.size; omega
          have hz2 : w.heap.size < u2.1.heap.size := by omega
          go_wp2_with fail
          refine (Calls.toExt (HSU.out _ ?_)).mono ?_
          · show Bel w _; repeat (first | exact Bel.refl _ | refine Bel.drew ?_ | refine Bel.drewN ?_ _ | refine Bel.alloc ?_ _ | refine Bel.ext ?_ _)
          rintro e _ ⟨rfl, u3, rfl⟩
          have hx3 : w.heap.size + 1 < u3.1.heap.size := by have := u3.2.size; omega
          have hz3 : w.heap.size < u3.1.heap.size := by omega
          go_wp2_with fail
          refine (HWN.out _ ?_).mono ?_
          · show Bel w _; repeat (first | exact Bel.refl _ | refine Bel.drew ?_ | refine Bel.drewN ?_ _ | refine Bel.alloc ?_ _ | refine Bel.ext ?_ _)
          rintro e w4 ⟨ad4, n4, c4, rfl, hsl4, hb4⟩
          have HB4 : Hid (Below w.heap.size w w4) := Below.trans (by show Bel w _; repeat (first | exact Bel.refl _ | refine Bel.drew ?_ | refine Bel.drewN ?_ _ | refine Bel.alloc ?_ _ | refine Bel.ext ?_ _)) (hb4.mono (by omega))
          have HSL4 := Lib.hid hsl4
          clear hsl4 hb4
          go_wp2_with fail
          refine (Calls.toExt (HFI.out _ HB4.out _ _ _ HSL4.out)).mono ?_
          rintro e _ ⟨rfl, u4, rfl⟩
          have HB5 : Hid (Below w.heap.size w u4.1) := Bel.ext HB4.out u4
          have ck : u4.1.cell? ⟨kb, koff + j, none⟩ = some (.string kj) := (HB5.out.cell (p := ⟨kb, koff + j, none⟩) hkb).trans hck
          go_wp2_with fail
          go_ret2
          exact ⟨by rw [HO.out]; rfl, HB5.out⟩
end Go.Proofs.YtadhblppeaamlaaGreatDoor
/- The case that values choose, in the program and in the reference, for any arguments; a part's cells. -/
namespace Go.Proofs.YtadhblppeaamlaaGreatDoor
open Go.RowKit

theorem suit_dec {kind : Int} {rs : List (ByteArray × List (List Rel))} {keys : List ByteArray} {v : Vl} : firstK keys (wantV kind rs v.tx) = -1 ∨ ∃ j : Nat, j < keys.length ∧ firstK keys (wantV kind rs v.tx) = (j : Int) := firstK_cases keys _
/-- a part: its cells, its kind, name and keys -/
structure PartK (d : Nat) (w : World) (p : Nat → Value) (kind : Int) (name : ByteArray) (keys : List ByteArray) : Prop where
  tree : PartC (PartsT d) w p
  k0 : p 0 = .int .i64 kind
  k2 : p 2 = .string name
  ks : name.size ≤ 140737488351232
  k4 : RowsOf 2 CaseC w (p 4) keys
  kl : keys.length * 40 ≤ 140737488351232
theorem PartK.below {d : Nat} {w w' : World} {p : Nat → Value} {kind : Int} {name : ByteArray} {keys : List ByteArray} (h : PartK d w p kind name keys) (hb : Below w.heap.size w w') : PartK d w' p kind name keys :=
  ⟨h.tree.below hb, h.k0, h.k2, h.ks, h.k4.map hb fun _ _ h => h, h.kl⟩
theorem PartsT.slice {d : Nat} {w : World} {v : Value} (h : PartsT d w v) : ∃ a m c, v = .slice a m c := by
  cases d with
  | zero => exact h.elim
  | succ d => obtain ⟨ad, n, c, _, _, _, e, _⟩ := h.open; exact ⟨ad, n, c, e⟩
theorem keys_of {d : Nat} {w : World} {v : Value} (h : CasesT (PartsT d) w v) : ∃ keys, RowsOf 2 CaseC w v keys ∧ keys.length * 40 ≤ 140737488351232 := by
  obtain ⟨ad, n, c, f, b, off, rfl, hr, hz, hc, hl, he⟩ := h
  obtain ⟨q, hq⟩ := Go.Deep.choose_lt (fun i hi => (he i hi).1)
  have hln : ((List.range n).map q).length = n := by simp
  refine ⟨(List.range n).map q, ⟨ad, c, f, b, off, by rw [hln], by rw [hln]; exact hr, hz, by rw [hln]; exact hc, by rw [hln]; omega, fun i s hs => ?_⟩, by rw [hln]; exact hl⟩
  have hi : i < n := by
    have := (List.getElem?_eq_some_iff.1 hs).1
    rwa [hln] at this
  have hx2 : q i = s := by
    simp only [List.getElem?_map, List.getElem?_range hi, Option.map_some, Option.some.injEq] at hs
    exact hs
  rw [← hx2]
  exact ⟨(hq i hi).1, ((he i hi).2).slice⟩
theorem part_k {d : Nat} {w : World} {p : Nat → Value} (h : PartC (PartsT d) w p) : ∃ kind name keys, PartK d w p kind name keys := by
  obtain ⟨⟨z, e0⟩, _, ⟨s, e2, hs⟩, _, h4, _⟩ := id h
  obtain ⟨keys, hk, hl⟩ := keys_of h4
  exact ⟨z, s, keys, h, e0, e2, by omega, hk, hl⟩
theorem choose_any2 (x p : Nat → Value) (a b : List (ByteArray × List (List Rel))) (kind : Int) (name : ByteArray) (keys : List ByteArray) (vs : List Vl) (vv : Value) (w : World) (h : LocC w x a b) (hp0 : p 0 = .int .i64 kind) (hp2 : p 2 = .string name) (hk : RowsOf 2 CaseC w (p 4) keys) (hkl : keys.length * 40 ≤ 140737488355328) (hvv : ValsAt w vv vs) (hfv : FewV1 vs) (ha : FewC a) (hb : FewC b) :
    Calls Tryz.prog 11 #[.agg #[x 0, x 1, x 2, x 3, x 4, x 5, x 6, x 7, x 8, x 9, x 10, x 11, x 12, x 13, x 14, x 15], .agg #[p 0, p 1, p 2, p 3, p 4, p 5], vv] w fun e w' => e = .returned (.tuple #[.int .i64 (chooseW kind (rulesV kind a b) keys (getV vs name).isSome (valOf vs name)).1, .int .i64 ((chooseW kind (rulesV kind a b) keys (getV vs name).isSome (valOf vs name)).2 : Nat)]) ∧ Below w.heap.size w w' := by
  cases h1 : decide (7 ≤ kind ∧ kind ≤ 9) with
  | false => rw [chooseW_sel h1]; exact choose_sel x p a b kind name keys vs vv w h hp0 hp2 hk hkl hvv hfv ha hb h1
  | true =>
    cases h2 : validR (rulesV kind a b) with
    | false => rw [chooseW_inv h1 h2]; exact choose_inv x p a b kind name keys vs vv w h hp0 hp2 hk hkl hvv hfv ha hb h1 h2
    | true =>
      cases h5 : (getV vs name).isSome with
      | false => rw [chooseW_miss h1 h2 rfl]; exact choose_miss x p a b kind name keys vs vv w h hp0 hp2 hk hkl hvv hfv ha hb h1 h2 h5
      | true =>
        cases h3 : suitV kind (valOf vs name) with
        | false => rw [chooseW_type h1 h2 rfl h3]; exact choose_type x p a b kind name keys vs vv w h hp0 hp2 hk hkl hvv hfv ha hb h1 h2 h5 h3
        | true =>
          rw [chooseW_first h1 h2 rfl h3]
          rcases suit_dec (kind := kind) (rs := rulesV kind a b) (keys := keys) (v := valOf vs name) with e | ⟨j, _, e⟩
          · rw [e, if_pos (by decide)]; exact choose_none x p a b kind name keys vs vv w h hp0 hp2 hk hkl hvv hfv ha hb h1 h2 h5 h3 e
          · rw [e, if_neg (by omega)]; exact choose_hit x p a b kind name keys vs vv w h hp0 hp2 hk hkl hvv hfv ha hb j h1 h2 h5 h3 e
theorem choose_any (x p : Nat → Value) (a b : List (ByteArray × List (List Rel))) (d : Nat) (kind : Int) (name : ByteArray) (keys : List ByteArray) (vs : List Vl) (vv : Value) (w : World) (h : LocC w x a b) (hp : PartK d w p kind name keys) (hvv : ValsAt w vv vs) (hfv : FewV1 vs) (ha : FewC a) (hb : FewC b) :
    Calls Tryz.prog 11 #[.agg #[x 0, x 1, x 2, x 3, x 4, x 5, x 6, x 7, x 8, x 9, x 10, x 11, x 12, x 13, x 14, x 15], .agg #[p 0, p 1, p 2, p 3, p 4, p 5], vv] w fun e w' => e = .returned (.tuple #[.int .i64 (chooseW kind (rulesV kind a b) keys (getV vs name).isSome (valOf vs name)).1, .int .i64 ((chooseW kind (rulesV kind a b) keys (getV vs name).isSome (valOf vs name)).2 : Nat)]) ∧ Below w.heap.size w w' :=
  choose_any2 x p a b kind name keys vs vv w h hp.k0 hp.k2 hp.k4 (by have := hp.kl; omega) hvv hfv ha hb
theorem rchoose_any2 (x p : Nat → Value) (a b : List (ByteArray × List (List Rel))) (kind : Int) (name : ByteArray) (keys : List ByteArray) (vs : List Vl) (vv : Value) (w : World) (h : LocC w x a b) (hp0 : p 0 = .int .i64 kind) (hp2 : p 2 = .string name) (hk : RowsOf 2 CaseC w (p 4) keys) (hkl : keys.length * 40 ≤ 140737488355328) (hvv : ValsAt w vv vs) (hfv : FewV1 vs) (ha : FewC a) (hb : FewC b) :
    Calls Tryz.prog 12 #[.agg #[x 0, x 1, x 2, x 3, x 4, x 5, x 6, x 7, x 8, x 9, x 10, x 11, x 12, x 13, x 14, x 15], .agg #[p 0, p 1, p 2, p 3, p 4, p 5], vv] w fun e w' => e = .returned (.tuple #[.int .i64 (chooseW kind (rulesV kind a b) keys (getV vs name).isSome (valOf vs name)).1, .int .i64 ((chooseW kind (rulesV kind a b) keys (getV vs name).isSome (valOf vs name)).2 : Nat)]) ∧ Below w.heap.size w w' := by
  cases h1 : decide (7 ≤ kind ∧ kind ≤ 9) with
  | false => rw [chooseW_sel h1]; exact rchoose_sel x p a b kind name keys vs vv w h hp0 hp2 hk hkl hvv hfv ha hb h1
  | true =>
    cases h2 : validR (rulesV kind a b) with
    | false => rw [chooseW_inv h1 h2]; exact rchoose_inv x p a b kind name keys vs vv w h hp0 hp2 hk hkl hvv hfv ha hb h1 h2
    | true =>
      cases h5 : (getV vs name).isSome with
      | false => rw [chooseW_miss h1 h2 rfl]; exact rchoose_miss x p a b kind name keys vs vv w h hp0 hp2 hk hkl hvv hfv ha hb h1 h2 h5
      | true =>
        cases h3 : suitV kind (valOf vs name) with
        | false => rw [chooseW_type h1 h2 rfl h3]; exact rchoose_type x p a b kind name keys vs vv w h hp0 hp2 hk hkl hvv hfv ha hb h1 h2 h5 h3
        | true =>
          rw [chooseW_first h1 h2 rfl h3]
          rcases suit_dec (kind := kind) (rs := rulesV kind a b) (keys := keys) (v := valOf vs name) with e | ⟨j, _, e⟩
          · rw [e, if_pos (by decide)]; exact rchoose_none x p a b kind name keys vs vv w h hp0 hp2 hk hkl hvv hfv ha hb h1 h2 h5 h3 e
          · rw [e, if_neg (by omega)]; exact rchoose_hit x p a b kind name keys vs vv w h hp0 hp2 hk hkl hvv hfv ha hb j h1 h2 h5 h3 e
theorem rchoose_any (x p : Nat → Value) (a b : List (ByteArray × List (List Rel))) (d : Nat) (kind : Int) (name : ByteArray) (keys : List ByteArray) (vs : List Vl) (vv : Value) (w : World) (h : LocC w x a b) (hp : PartK d w p kind name keys) (hvv : ValsAt w vv vs) (hfv : FewV1 vs) (ha : FewC a) (hb : FewC b) :
    Calls Tryz.prog 12 #[.agg #[x 0, x 1, x 2, x 3, x 4, x 5, x 6, x 7, x 8, x 9, x 10, x 11, x 12, x 13, x 14, x 15], .agg #[p 0, p 1, p 2, p 3, p 4, p 5], vv] w fun e w' => e = .returned (.tuple #[.int .i64 (chooseW kind (rulesV kind a b) keys (getV vs name).isSome (valOf vs name)).1, .int .i64 ((chooseW kind (rulesV kind a b) keys (getV vs name).isSome (valOf vs name)).2 : Nat)]) ∧ Below w.heap.size w w' :=
  rchoose_any2 x p a b kind name keys vs vv w h hp.k0 hp.k2 hp.k4 (by have := hp.kl; omega) hvv hfv ha hb
theorem row_three (w : World) (o o2 : Obj) (cs : Array Value) (t : TypeId) : (((w.alloc o).alloc o2).alloc (.cells cs t)).heap[w.heap.size + 2]? = some (.cells cs t (0, 0)) := by
  have := row_second (w.alloc o) o2 cs t
  rwa [World.size_alloc] at this
theorem get_self (v : Vl) : (getV [v] v.nm).isSome = true ∧ valOf [v] v.nm = v := by
  have : getV [v] v.nm = some v := by simp [getV]
  unfold valOf
  rw [this]
  exact ⟨rfl, rfl⟩
end Go.Proofs.YtadhblppeaamlaaGreatDoor
/- A region that draws its order and whose last store may hit what it loads: a condition on the world that asks which operations have come up. -/
namespace Go.Proofs.YtadhblppeaamlaaGreatDoor
open Go.RowKit

section
variable {P : Program} {ops : Array Oper} {Q : Exit → Act → World → Prop} {md : Region.Mode} {S : Array Bool → World → Prop}

/-- whatever order is picked from here on; behind each operation the condition holds of what has come up by then -/
def wpAnyG (P : Program) (md : Region.Mode) (ops : Array Oper) (Q : Exit → Act → World → Prop) (S : Array Bool → World → Prop) : Nat → Array Bool → Act → World → Prop
  | 0, L, a, w => Region.ready md ops L = [] ∧ Q .normal a w
  | g + 1, L, a, w => (Region.ready md ops L = [] → Q .normal a w) ∧ ∀ i ∈ Region.ready md ops L, wpOp P ops Q i (fun a' w' => S (L.setIfInBounds i true) w' ∧ wpAnyG P md ops Q S g (L.setIfInBounds i true) a' w') a w
theorem wpAny_of_G : ∀ (g : Nat) (L : Array Bool) (a : Act) (w : World), wpAnyG P md ops Q S g L a w → wpAny P md ops Q g L a w
  | 0, _, _, _, h => h
  | g + 1, _, _, _, h => ⟨h.1, fun i hi => wpOp_mono (fun a' w' h' => wpAny_of_G g _ a' w' h'.2) (h.2 i hi)⟩
/-- a condition that is asked until number k has come up -/
def Until (k : Nat) (S : World → Prop) (L : Array Bool) (w : World) : Prop := L.getD k true = false → S w
/-- number k waits for number i -/
def waitsB (md : Region.Mode) (ops : Array Oper) (k i : Nat) : Bool := match ops[k]? with | some o => o.after.any fun e => Region.binds md e && e.on == i | none => false
theorem wpAnyG_first {k i : Nat} {oi : Oper} {v : Value} {S : World → Prop} (hi : ops[i]? = some oi) (hsel : ∀ (j : Nat) (o : Oper) cs b, ops[j]? = some o → o.op ≠ .select cs b)
    (hQ : ∀ c a w, Q (.panic c) (a.put oi.dst v) w → Q (.panic c) a w) (hki : i ≠ k) (hw : waitsB md ops k i = true) :
    ∀ (g : Nat) (L : Array Bool) (a : Act) (w : World),
      (∀ j oj, ops[j]? = some oj → j ≠ i → L.getD j true = false → (∀ e ∈ oj.after, Region.binds md e = true → e.on ≠ i) → oi.apart ops oj = true) →
      i ∈ Region.ready md ops L → YieldsIf P ops S oi v a → L.getD k true = false → S w →
      wpAnyG P md ops Q (Until k S) g (L.setIfInBounds i true) (a.put oi.dst v) w → wpAnyG P md ops Q (Until k S) (g + 1) L a w := by
  intro g
  induction g with
  | zero =>
    intro L a w _ hr hy _ hS H
    refine ⟨fun h => (by rw [h] at hr; cases hr), fun j hj => ?_⟩
    by_cases hji : j = i
    · subst hji; exact hy.wpOp hi hS ⟨fun _ => hS, H⟩
    · have := ready_mono hj hji
      rw [H.1] at this
      cases this
  | succ g ih =>
    intro L a w hfree hr hy hkL hS H
    refine ⟨fun h => (by rw [h] at hr; cases hr), fun j hj => ?_⟩
    by_cases hji : j = i
    · subst hji; exact hy.wpOp hi hS ⟨fun _ => hS, H⟩
    · have h1 := H.2 j (ready_mono hj hji)
      obtain ⟨hjun, oj, hoj, hall⟩ := mem_ready.1 hj
      have hun := (mem_ready.1 hr).1
      have hnot : ∀ e ∈ oj.after, Region.binds md e = true → e.on ≠ i := fun e he hb heq => by
        have h1 := hall e he hb
        rw [heq] at h1
        rcases Nat.lt_or_ge i L.size with h' | h'
        · simp [h'] at hun h1; rw [hun] at h1; cases h1
        · simp [Array.getElem?_eq_none h'] at h1
      have hjk : j ≠ k := fun e => by
        subst e
        unfold waitsB at hw
        rw [hoj] at hw
        simp only [Array.any_eq_true, Bool.and_eq_true, beq_iff_eq] at hw
        obtain ⟨x, hx, hb, ho⟩ := hw
        exact hnot _ (Array.getElem_mem hx) hb ho
      have hkL' : (L.setIfInBounds j true).getD k true = false := by rw [getD_set_ne true hjk]; exact hkL
      have hkL2 : ((L.setIfInBounds i true).setIfInBounds j true).getD k true = false := by rw [getD_set_ne true hjk, getD_set_ne true hki]; exact hkL
      have h2 := wpOp_putIf hoj (hfree j oj hoj hji hjun hnot) (fun cs b => hsel i oi cs b hi) (fun cs b => hsel j oj cs b hoj) hQ hy h1
      have hfree' : ∀ m ok, ops[m]? = some ok → m ≠ i → (L.setIfInBounds j true).getD m true = false →
          (∀ e ∈ ok.after, Region.binds md e = true → e.on ≠ i) → oi.apart ops ok = true := fun m ok hm hmi hun hno => by
        refine hfree m ok hm hmi ?_ hno
        by_cases hjm : j = m
        · subst hjm; exact hjun
        · rw [getD_set_ne true hjm] at hun; exact hun
      refine wpOp_mono (fun a' w' h3 => ?_) h2
      have hS' : S w' := h3.2.1 hkL2
      refine ⟨fun _ => hS', ih (L.setIfInBounds j true) a' w' hfree' (ready_mono hr (Ne.symm hji)) h3.1 hkL' hS' ?_⟩
      rw [Array.setIfInBounds_comm _ _ hji]
      exact h3.2.2
/-- number i is taken first -/
theorem wpAnyG_take {k i : Nat} {oi : Oper} {v : Value} {g : Nat} {L : Array Bool} {a : Act} {w : World} {S : World → Prop} (hi : ops[i]? = some oi)
    (hs : Region.noSelect ops = true) (hf : Region.free md ops L i = true) (hr : (Region.ready md ops L).contains i = true)
    (hQ : ∀ c a w, Q (.panic c) (a.put oi.dst v) w → Q (.panic c) a w) (hw : waitsB md ops k i = true) (hki : i ≠ k) (hk : L.getD k true = false) (hy : YieldsIf P ops S oi v a) (hS : S w)
    (h : wpAnyG P md ops Q (Until k S) g (L.setIfInBounds i true) (a.put oi.dst v) w) : wpAnyG P md ops Q (Until k S) (g + 1) L a w :=
  wpAnyG_first hi (Region.noSelect_spec hs) hQ hki hw g L a w (Region.free_spec hi hf) (by simpa using hr) hy hk hS h
/-- each of the operations rs comes up next -/
def AllReadyG (P : Program) (md : Region.Mode) (ops : Array Oper) (Q : Exit → Act → World → Prop) (S : Array Bool → World → Prop) (g : Nat) (L : Array Bool) (a : Act) (w : World) (rs : List Nat) : Prop :=
  ∀ i ∈ rs, wpOp P ops Q i (fun a' w' => S (L.setIfInBounds i true) w' ∧ wpAnyG P md ops Q S g (L.setIfInBounds i true) a' w') a w
theorem AllReadyG.nil {g : Nat} {L : Array Bool} {a : Act} {w : World} : AllReadyG P md ops Q S g L a w [] := fun _ h => by cases h
theorem AllReadyG.cons {g : Nat} {L : Array Bool} {a : Act} {w : World} {i : Nat} {o : Oper} {rs : List Nat} (ho : ops[i]? = some o)
    (h : ∀ K' : Act → World → Prop, Shut (∀ a w, S (L.setIfInBounds i true) w → (S (L.setIfInBounds i true) w → wpAnyG P md ops Q S g (L.setIfInBounds i true) a w) → K' a w) → if Region.wanted o (yielded ops a.tmps) = true then Oper.wp P o a w K' Q else K' (a.put o.dst undef) w)
    (hs : AllReadyG P md ops Q S g L a w rs) : AllReadyG P md ops Q S g L a w (i :: rs) := fun j hj => by
  rcases List.mem_cons.1 hj with rfl | hj
  · exact wpOp_step ho (fun K' hK => h K' (fun a w hS hW => hK a w ⟨hS, hW hS⟩))
  · exact hs j hj
theorem wpAnyG_ready {rs : List Nat} {g : Nat} {L : Array Bool} {a : Act} {w : World} (hr : Region.ready md ops L = rs) (hne : rs ≠ [])
    (h : AllReadyG P md ops Q S g L a w rs) : wpAnyG P md ops Q S (g + 1) L a w := ⟨fun h0 => absurd (hr ▸ h0) hne, hr ▸ h⟩
theorem wpAnyG_done {L : Array Bool} {a : Act} {w : World} (hr : Region.ready md ops L = []) (h : Q .normal a w) : ∀ g, wpAnyG P md ops Q S g L a w
  | 0 => ⟨hr, h⟩
  | _ + 1 => ⟨fun _ => h, by rw [hr]; simp⟩
/-- the beginning -/
theorem wp_region_until {id : Nat} {a : Act} {w : World} (k : Nat) (S : World → Prop) (hm : P.follows .mixedOrders = true) (hS : S w.drew)
    (h : S w.drew → wpAnyG P .any ops Q (Until k S) ops.size (Array.replicate ops.size false) a w.drew) : (Code.region id ops true).wp P Q a w :=
  wp_region_any hm (wpAny_of_G _ _ _ _ (h hS))
end
end Go.Proofs.YtadhblppeaamlaaGreatDoor
