/- Walks: valid terms, by the reference. -/
import Derived.Test.YtkodnagneblgaaaGP
namespace Go.Proofs.Ytkodnagneblgaaa
open Go.RowKit Go.Maps Go.Sort
attribute [local go_sem] Ext.cell Ext.frozen
attribute [local go_sem ↓] Go.wp_at_zero Go.wp_at_succ
theorem dup_yes {ts : List Tm} {i j : Nat} (hj : j < i) (h : (alikeB (ts.getD j tm0).s (ts.getD i tm0).s && alikeB (ts.getD j tm0).t (ts.getD i tm0).t) = true) : dupT ts i = true := by
  unfold dupT
  exact List.any_eq_true.2 ⟨j, List.mem_range.2 hj, h⟩
theorem dup_no {ts : List Tm} {i : Nat} (h : ∀ j, j < i → (alikeB (ts.getD j tm0).s (ts.getD i tm0).s && alikeB (ts.getD j tm0).t (ts.getD i tm0).t) = false) : dupT ts i = false := by
  unfold dupT
  rw [List.any_eq_false]
  intro j hj
  rw [h j (List.mem_range.1 hj)]
  decide
set_option maxRecDepth 100000 in
set_option maxHeartbeats 8000000 in
theorem rvalid_any (ts : List Tm) (ad : Option Addr) (n c : Nat) (w : World) (ht : TmAt w ad n ts) (hn : n ≤ 1000) (hz : ∀ x ∈ ts, x.s.size ≤ 100000 ∧ x.t.size ≤ 100000) :
    Calls Try.prog 16 #[.slice ad n c] w fun e w' => e = .returned (.bool (validT ts)) ∧ Below w.heap.size w w' := by
  have HL := Lib.hid ht.1
  have HT := Lib.hid ht
  have HZ := Lib.hid hz
  have HP := Lib.hid rproper_any
  have HA := Lib.hid ralike_any
  clear ht hz
  go_enter Try.func16, Try.ntmps16
  go_wp2_with fail
  go_loopw [3] (fun u wr => ∃ (i : Nat), u = .int .i64 (i : Int) ∧ i ≤ n ∧ (∀ j, j < i → okT ts j = true) ∧ Below w.heap.size w wr) (fun u _ => n - (intOf u).toNat)
  case atStart => exact ⟨0, rfl, Nat.zero_le _, fun j hj => absurd hj (Nat.not_lt_zero _), Below.refl _ _⟩
  case round =>
    obtain ⟨i, rfl, hin, hok, hbl⟩ := hrel
    have HOK := Lib.hid hok
    have HB := Lib.hid hbl
    clear hok hbl
    by_cases hlt : i < n
    · obtain ⟨_, tb, tq, hrw⟩ := HT.out.below HB.out
      have hix := fun W => hrw.ix 22 48 Try.underlying22 cellsRTm (by omega) hlt c W
      have h0 := hrw.cell i 0 hlt (by omega)
      have h1 := hrw.cell i 1 hlt (by omega)
      rw [Nat.add_zero] at h0
      simp only [tmC] at h0 h1
      have HNO := Lib.hid (valid_no (ts := ts) (i := i) (by rw [HL.out]; exact hlt))
      have HOKE : Hid (okT ts i = (properB (ts.getD i tm0).s && properB (ts.getD i tm0).t && !dupT ts i)) := rfl
      have HNX : Hid (okT ts i = true → ∀ j, j < i + 1 → okT ts j = true) := fun h j hj => by
        by_cases e : j = i
        · rw [e]; exact h
        · exact HOK.out j (by omega)
      have HDY : Hid (∀ j, j < i → (alikeB (ts.getD j tm0).s (ts.getD i tm0).s && alikeB (ts.getD j tm0).t (ts.getD i tm0).t) = true → dupT ts i = true) := fun j hj h => dup_yes hj h
      have HDN : Hid ((∀ j, j < i → (alikeB (ts.getD j tm0).s (ts.getD i tm0).s && alikeB (ts.getD j tm0).t (ts.getD i tm0).t) = false) → dupT ts i = false) := fun h => dup_no h
      obtain ⟨z1, z2⟩ := HZ.out (ts.getD i tm0) (getD_mem _ _ _ (by rw [HL.out]; exact hlt))
      have HZ1 := Lib.hid z1
      have HZ2 := Lib.hid z2
      have hlz : (i : Int) < (n : Int) := by omega
      clear hrw z1 z2 HOK
      generalize okT ts i = ok at *
      generalize dupT ts i = du at *
      generalize ts.getD i tm0 = x at *
      have HP1 : Hid (∀ W, Calls Try.prog 33 #[.string x.s] W fun e w' => e = .returned (.bool (properB x.s)) ∧ Below W.heap.size W w') := fun W => HP.out x.s W (Nat.le_trans HZ1.out (by omega))
      have HP2 : Hid (∀ W, Calls Try.prog 33 #[.string x.t] W fun e w' => e = .returned (.bool (properB x.t)) ∧ Below W.heap.size W w') := fun W => HP.out x.t W (Nat.le_trans HZ2.out (by omega))
      generalize properB x.s = p1 at *
      generalize properB x.t = p2 at *
      cases p1 with
      | false =>
        have HV : Hid (validT ts = false) := HNO.out (by rw [HOKE.out]; rfl)
        go_wp2_with fail
        refine (HP1.out _).mono ?_
        rintro e v1 ⟨rfl, hb⟩
        have HB4 := Lib.hid (HB.out.trans (hb.mono HB.out.size))
        clear hb
        go_wp2_with fail
        go_ret
        exact ⟨by rw [HV.out]; rfl, HB4.out⟩
      | true =>
        go_wp2_with fail
        refine (HP1.out _).mono ?_
        rintro e v1 ⟨rfl, hb⟩
        have HB4 := Lib.hid (HB.out.trans (hb.mono HB.out.size))
        have k0 := cell_later hb h0
        have k1 := cell_later hb h1
        clear hb HB h0 h1
        cases p2 with
        | false =>
          have HV : Hid (validT ts = false) := HNO.out (by rw [HOKE.out]; rfl)
          go_wp2_with fail
          refine (HP2.out _).mono ?_
          rintro e v2 ⟨rfl, hb⟩
          have HB5 := Lib.hid (HB4.out.trans (hb.mono HB4.out.size))
          clear hb
          go_wp2_with fail
          go_ret
          exact ⟨by rw [HV.out]; rfl, HB5.out⟩
        | true =>
          go_wp2_with fail
          refine (HP2.out _).mono ?_
          rintro e v2 ⟨rfl, hb⟩
          have HB5 := Lib.hid (HB4.out.trans (hb.mono HB4.out.size))
          have k0' := cell_later hb k0
          have k1' := cell_later hb k1
          have HK0 := Lib.hid k0'
          have HK1 := Lib.hid k1'
          clear hb HB4 k0 k1 k0' k1' HP1 HP2
          go_wp2_with fail
          go_loopw [4] (fun u wx => ∃ (j : Nat), u = .int .i64 (j : Int) ∧ j ≤ i ∧ (∀ q, q < j → (alikeB (ts.getD q tm0).s x.s && alikeB (ts.getD q tm0).t x.t) = false) ∧ Below v2.heap.size v2 wx) (fun u _ => i - (intOf u).toNat)
          case atStart => exact ⟨0, rfl, Nat.zero_le _, fun j hj => absurd hj (Nat.not_lt_zero _), Below.refl _ _⟩
          case round =>
            obtain ⟨j, rfl, hji, hno, hbl⟩ := hrel
            have HNJ := Lib.hid hno
            have HBJ := Lib.hid hbl
            clear hno hbl
            by_cases hjl : j < i
            · have hjn : j < n := by omega
              obtain ⟨_, sb, sq, hrj⟩ := HT.out.below (HB5.out.trans (HBJ.out.mono HB5.out.size))
              have hixj := fun W => hrj.ix 22 48 Try.underlying22 cellsRTm (by omega) hjn c W
              have j0 := hrj.cell j 0 hjn (by omega)
              have j1 := hrj.cell j 1 hjn (by omega)
              rw [Nat.add_zero] at j0
              simp only [tmC] at j0 j1
              have i0 := cell_later HBJ.out HK0.out
              have i1 := cell_later HBJ.out HK1.out
              have hsb := World.block_lt_of_cell? _ _ j0
              have htb := World.block_lt_of_cell? _ _ i0
              simp only at hsb htb
              obtain ⟨z1, z2⟩ := HZ.out (ts.getD j tm0) (getD_mem _ _ _ (by rw [HL.out]; exact hjn))
              have HDY1 := Lib.hid (HDY.out j hjl)
              have HNJ2 : Hid ((alikeB (ts.getD j tm0).s x.s && alikeB (ts.getD j tm0).t x.t) = false → ∀ q, q < j + 1 → (alikeB (ts.getD q tm0).s x.s && alikeB (ts.getD q tm0).t x.t) = false) := fun h q hq => by
                by_cases e : q = j
                · rw [e]; exact h
                · exact HNJ.out q (by omega)
              have HA1 : Hid (∀ W, Calls Try.prog 23 #[.string (ts.getD j tm0).s, .string x.s] W fun e w' => e = .returned (.bool (alikeB (ts.getD j tm0).s x.s)) ∧ Below W.heap.size W w') := fun W => HA.out _ _ W (by omega) (Nat.le_trans HZ1.out (by omega))
              have HA2 : Hid (∀ W, Calls Try.prog 23 #[.string (ts.getD j tm0).t, .string x.t] W fun e w' => e = .returned (.bool (alikeB (ts.getD j tm0).t x.t)) ∧ Below W.heap.size W w') := fun W => HA.out _ _ W (by omega) (Nat.le_trans HZ2.out (by omega))
              have hjz : (j : Int) < (i : Int) := by omega
              clear hrj z1 z2
              generalize alikeB (ts.getD j tm0).s x.s = b1 at *
              generalize alikeB (ts.getD j tm0).t x.t = b2 at *
              generalize ts.getD j tm0 = y at *
              cases b1 with
              | false =>
                have HN2 := Lib.hid (HNJ2.out rfl)
                clear HNJ2 HDY1
                go_wp2_with fail
                refine wp_region_ext (by kernel_rfl) (by kernel_rfl) ?_
                repeat (go_big_quiet_step (first | (go_at_call 23; exact Calls.ext (HA1.out _))))
                refine wpQuiet_nil ?_
                intro _ hw'
                obtain ⟨X9, hw''⟩ := hw'
                subst hw''
                go_wp2_with fail
                go_roundw
                case rel => exact ⟨j + 1, by go_num, by omega, HN2.out, HBJ.out.trans (X9.2.mono HBJ.out.size)⟩
                case measure => simp [intOf]; omega
              | true =>
                cases b2 with
                | false =>
                  have HN2 := Lib.hid (HNJ2.out rfl)
                  clear HNJ2 HDY1
                  go_wp2_with fail
                  refine wp_region_ext (by kernel_rfl) (by kernel_rfl) ?_
                  repeat (go_big_quiet_step (first | (go_at_call 23; first | exact Calls.ext (HA1.out _) | exact Calls.ext (HA2.out _))))
                  refine wpQuiet_nil ?_
                  intro _ hw'
                  obtain ⟨X9, hw''⟩ := hw'
                  subst hw''
                  go_wp2_with fail
                  go_roundw
                  case rel => exact ⟨j + 1, by go_num, by omega, HN2.out, HBJ.out.trans (X9.2.mono HBJ.out.size)⟩
                  case measure => simp [intOf]; omega
                | true =>
                  have HDU : Hid (du = true) := HDY1.out rfl
                  have HV : Hid (validT ts = false) := HNO.out (by rw [HOKE.out, HDU.out]; rfl)
                  clear HNJ2 HDY1 HDU
                  go_wp2_with fail
                  refine wp_region_ext (by kernel_rfl) (by kernel_rfl) ?_
                  repeat (go_big_quiet_step (first | (go_at_call 23; first | exact Calls.ext (HA1.out _) | exact Calls.ext (HA2.out _))))
                  refine wpQuiet_nil ?_
                  intro _ hw'
                  obtain ⟨X9, hw''⟩ := hw'
                  subst hw''
                  go_wp2_with fail
                  go_ret
                  exact ⟨by rw [HV.out]; rfl, HB5.out.trans ((HBJ.out.trans (X9.2.mono HBJ.out.size)).mono HB5.out.size)⟩
            · obtain rfl : j = i := by omega
              have HDU : Hid (du = false) := HDN.out HNJ.out
              have HN2 := Lib.hid (HNX.out (by rw [HOKE.out, HDU.out]; rfl))
              have HB6 := Lib.hid (HB5.out.trans (HBJ.out.mono HB5.out.size))
              clear HDU HNX
              go_wp2_with fail
              go_roundw
              case rel => exact ⟨j + 1, by go_num, by omega, HN2.out, HB6.out⟩
              case measure => simp [intOf]; omega
    · obtain rfl : i = n := by omega
      have HF : Hid (validT ts = decide ((i : Int) ≤ 200)) := by
        rw [Hid, valid_end (fun j hj => HOK.out j (by rw [← HL.out]; exact hj)), HL.out, Bool.eq_iff_iff, decide_eq_true_eq, decide_eq_true_eq]
        omega
      go_wp2_with fail
      go_ret
      exact ⟨by rw [HF.out]; rfl, HB.out⟩
end Go.Proofs.Ytkodnagneblgaaa
