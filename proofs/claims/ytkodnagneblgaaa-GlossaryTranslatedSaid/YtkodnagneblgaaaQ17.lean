/- Walks: missing translations by the reference, whole; wrong translations by the reference. -/
import Derived.Test.YtkodnagneblgaaaQ16
namespace Go.Proofs.Ytkodnagneblgaaa
open Go.RowKit Go.Maps Go.Sort
attribute [local go_sem] Ext.cell Ext.frozen
attribute [local go_sem ↓] Go.wp_at_zero Go.wp_at_succ
theorem rmissing_any (ts : List Tm) (ps pt : List (Nat × Nat)) (ad : Option Addr) (n c k : Nat) (a2 : Option Addr) (N2 c2 : Nat) (a3 : Option Addr) (N3 c3 : Nat) (w : World) (ht : TmAt w ad n ts) (hk : k < n) (hn : n ≤ 1000) (hz : ∀ x ∈ ts, x.s.size ≤ 100000 ∧ x.t.size ≤ 100000) (hps : PrAt w a2 N2 ps) (hN2 : N2 ≤ 1000001) (hm2 : ∀ p ∈ ps, p.1 < n)
    (hpt : PrAt w a3 N3 pt) (hN3 : N3 ≤ 1000001) (hm : ∀ p ∈ pt, p.1 < n) :
    Calls Try.prog 29 #[.slice ad n c, .int .i64 (k : Int), .slice a2 N2 c2, .slice a3 N3 c3] w fun e w' => e = .returned (.bool (rmissV ts ps pt k)) ∧ Below w.heap.size w w' := by
  refine rm_first ts ps pt ad n c k a2 N2 c2 a3 N3 c3 w _ ht hk hn hz hpt hN3 hm ?_
  intro wr v1 v2
  intros
  rename_i h1 h2
  exact rm_second ts ps ad n c k _ a2 N2 c2 a3 N3 c3 w wr v1 v2 _ _ _ _ _ _ _ _ _ _ _ _ _ _ _ _ _ _ _ _ _ _ _ _ _ _ _ _ _ _ _ _ _ _ _ _ _ _ _ _ _ _ _ _ _ _ _ _ _ _ _ _ _ _ _ _ _ _ _ _ _ _ _ _ _ _ _ _ _ _ _ _ _ _ _ _ _ _ _ _ _ _ _ _ _ _ _ _ _ _ _ _ _ _ _ _ _ _ _ _ _ _ _ _ _ _ _ _ (ht.below h2) hk hn hz (hps.below h2) hN2 hm2 (Nat.le_trans (List.length_filter_le _ _) (by rw [hpt.1]; exact hN3)) h1 h2
set_option maxRecDepth 100000 in
set_option maxHeartbeats 8000000 in
theorem rwrong_any (ts : List Tm) (ps pt : List (Nat × Nat)) (ad : Option Addr) (n c k : Nat) (a2 : Option Addr) (N2 c2 : Nat) (a3 : Option Addr) (N3 c3 : Nat) (w : World) (ht : TmAt w ad n ts) (hk : k < n) (hn : n ≤ 1000) (hz : ∀ x ∈ ts, x.s.size ≤ 100000 ∧ x.t.size ≤ 100000) (hps : PrAt w a2 N2 ps) (hN2 : N2 ≤ 1000001) (hm2 : ∀ p ∈ ps, p.1 < n)
    (hpt : PrAt w a3 N3 pt) (hN3 : N3 ≤ 1000001) (hm : ∀ p ∈ pt, p.1 < n) :
    Calls Try.prog 30 #[.slice ad n c, .int .i64 (k : Int), .slice a2 N2 c2, .slice a3 N3 c3] w fun e w' => e = .returned (.bool (wrongV ts (cntV ((ts.map (·.s)).map keyB) ps) (cntV ((ts.map (·.t)).map keyB) pt) k)) ∧ Below w.heap.size w w' := by
  have HL := Lib.hid ht.1
  have HT := Lib.hid ht
  have HZ := Lib.hid hz
  have HA := Lib.hid ralike_any
  have HP2 := Lib.hid hps
  have HP3 := Lib.hid hpt
  have HST := Lib.hid (rstrings_any ts ad n c w ht hn)
  have HRC := Lib.hid (fun a9 c9 W (h1 : Sl W a9 n (strs (ts.map (·.s)))) (h2 : PrAt W a2 N2 ps) (s : ByteArray) (h3 : s.size ≤ 1000000) => rcount_any (ts.map (·.s)) ps s a9 n c9 a2 N2 c2 W h1 h2 hn hN2 (fun s h => by obtain ⟨x, hx, rfl⟩ := List.mem_map.1 h; have := (hz x hx).1; omega) h3 hm2)
  have HRT := Lib.hid (fun a9 c9 W (h1 : Sl W a9 n (strs (ts.map (·.t)))) (h2 : PrAt W a3 N3 pt) (s : ByteArray) (h3 : s.size ≤ 1000000) => rcount_any (ts.map (·.t)) pt s a9 n c9 a3 N3 c3 W h1 h2 hn hN3 (fun s h => by obtain ⟨x, hx, rfl⟩ := List.mem_map.1 h; have := (hz x hx).2; omega) h3 hm)
  have hcb : ∀ t, cntV ((ts.map (·.s)).map keyB) ps t ≤ 1000001 := fun t => Nat.le_trans (cntV_le _ _ _) (by rw [hps.1]; exact hN2)
  have htb : ∀ t, cntV ((ts.map (·.t)).map keyB) pt t ≤ 1000001 := fun t => Nat.le_trans (cntV_le _ _ _) (by rw [hpt.1]; exact hN3)
  have HZK := Lib.hid (hz (ts.getD k tm0) (getD_mem _ _ _ (by rw [HL.out]; exact hk)))
  obtain ⟨_, tb, tq, hrk⟩ := ht
  have hixk := fun W => hrk.ix 22 48 Try.underlying22 cellsRTm (by omega) hk c W
  have k0 := hrk.cell k 0 hk (by omega)
  have k1 := hrk.cell k 1 hk (by omega)
  have k2 := hrk.cell k 2 hk (by omega)
  rw [Nat.add_zero] at k0
  simp only [tmC] at k0 k1 k2
  clear hz hps hpt hm hm2 hrk
  generalize cntV ((ts.map (·.s)).map keyB) ps = cs at *
  generalize cntV ((ts.map (·.t)).map keyB) pt = ct at *
  have HV : Hid (wrongV ts cs ct k = ((ts.getD k tm0).f && decide (0 < cs (keyB (ts.getD k tm0).s)) && decide (0 < ct (keyB (ts.getD k tm0).t)) && !(ts.any (allowB cs (keyB (ts.getD k tm0).t))))) := rfl
  generalize wrongV ts cs ct k = wv at *
  generalize ts.getD k tm0 = x at *
  obtain ⟨sk, tk, f⟩ := x
  simp only at k0 k1 k2 HZK HV
  have HI0 := Lib.hid k0
  have HI1 := Lib.hid k1
  have HI2 := Lib.hid k2
  clear k0 k1 k2
  have hc1 := hcb (keyB sk)
  have hc2 := htb (keyB tk)
  go_enter Try.func30, Try.ntmps30
  go_wp2_with fail
  refine HST.out.mono ?_
  rintro e w1 ⟨v1, v2, rfl, htw, hb⟩
  have HB1 := Lib.hid hb
  obtain ⟨a9, c9, rfl⟩ := htw.r1.form
  obtain ⟨a10, c10, rfl⟩ := htw.r2.form
  have hm1 : (ts.map (·.s)).length = n := by rw [List.length_map]; exact HL.out
  have hm2 : (ts.map (·.t)).length = n := by rw [List.length_map]; exact HL.out
  have hr1 := htw.r1
  have hr2 := htw.r2
  unfold StrR at hr1 hr2
  rw [hm1] at hr1 ⊢
  rw [hm2] at hr2 ⊢
  have HSL := Lib.hid (Own.sl hr1)
  have HSR := Lib.hid (Own.sl hr2)
  have HP1 := Lib.hid (HP2.out.below hb)
  have HQ1 := Lib.hid (HP3.out.below hb)
  have HT1 := Lib.hid (HT.out.below hb)
  have g0 := cell_later hb HI0.out
  have g1 := cell_later hb HI1.out
  have g2 := cell_later hb HI2.out
  clear htw hb hr1 hr2 hm1 hm2 HST HP2 HP3 HI0 HI1 HI2 HT
  have HCK := Lib.hid (fun W (h1 : Sl W a9 n (strs (ts.map (·.s)))) (h2 : PrAt W a2 N2 ps) => HRC.out a9 c9 W h1 h2 sk (Nat.le_trans HZK.out.1 (by omega)))
  have HCT := Lib.hid (fun W (h1 : Sl W a10 n (strs (ts.map (·.t)))) (h2 : PrAt W a3 N3 pt) => HRT.out a10 c10 W h1 h2 tk (Nat.le_trans HZK.out.2 (by omega)))
  generalize cs (keyB sk) = cks at *
  obtain ⟨ckt, hckt⟩ : ∃ ckt, ct (keyB tk) = ckt := ⟨_, rfl⟩
  rw [hckt] at HCT hc2 HV
  clear hckt
  cases f with
  | false =>
    have HW : Hid (wv = false) := HV.out
    go_wp2_with fail
    go_ret
    exact ⟨by rw [HW.out]; rfl, HB1.out⟩
  | true =>
    by_cases e1 : 0 < cks
    · have e1z : ¬ (cks : Int) = 0 := by omega
      have e1d : decide ((cks : Int) = 0) = false := decide_eq_false e1z
      have e1b : ((cks : Int) == 0) = false := by simpa using e1z
      by_cases e2 : 0 < ckt
      · have e2z : ¬ (ckt : Int) = 0 := by omega
        have e2d : decide ((ckt : Int) = 0) = false := decide_eq_false e2z
        have e2b : ((ckt : Int) == 0) = false := by simpa using e2z
        have HW : Hid (wv = !(ts.any (allowB cs (keyB tk)))) := by rw [Hid, HV.out]; simp [e1, e2]
        clear HV
        go_wp2_with fail
        refine (HCK.out _ HSL.out HP1.out).mono ?_
        rintro e w2 ⟨rfl, hb⟩
        have HB2 := Lib.hid (HB1.out.trans (hb.mono HB1.out.size))
        have HSL := Lib.hid (HSL.out.below hb)
        have HSR := Lib.hid (HSR.out.below hb)
        have HP1 := Lib.hid (HP1.out.below hb)
        have HQ1 := Lib.hid (HQ1.out.below hb)
        have HT1 := Lib.hid (HT1.out.below hb)
        have g1 := cell_later hb g1
        clear hb
        go_wp2_with fail
        refine (HCT.out _ HSR.out HQ1.out).mono ?_
        rintro e w3 ⟨rfl, hb⟩
        have HB3 := Lib.hid (HB2.out.trans (hb.mono HB2.out.size))
        have HSL := Lib.hid (HSL.out.below hb)
        have HP1 := Lib.hid (HP1.out.below hb)
        have HT1 := Lib.hid (HT1.out.below hb)
        have HI1 := Lib.hid (cell_later hb g1)
        clear hb
        go_wp2_with fail
        go_loopw [11] (fun u wr => ∃ (j : Nat), u = .int .i64 (j : Int) ∧ j ≤ n ∧ (∀ q, q < j → allowB cs (keyB tk) (ts.getD q tm0) = false) ∧ Below w3.heap.size w3 wr) (fun u _ => n - (intOf u).toNat)
        case atStart => exact ⟨0, rfl, Nat.zero_le _, fun q hq => absurd hq (Nat.not_lt_zero _), Below.refl _ _⟩
        case round =>
          obtain ⟨j, rfl, hjn, hno, hbl⟩ := hrel
          have HNO := Lib.hid hno
          have HBJ := Lib.hid hbl
          clear hno hbl
          by_cases hjl : j < n
          · obtain ⟨_, sb, sq, hrj⟩ := HT1.out.below HBJ.out
            have hixj := fun W => hrj.ix 22 48 Try.underlying22 cellsRTm (by omega) hjl c W
            have j0 := hrj.cell j 0 hjl (by omega)
            have j1 := hrj.cell j 1 hjl (by omega)
            have j2 := hrj.cell j 2 hjl (by omega)
            rw [Nat.add_zero] at j0
            simp only [tmC] at j0 j1 j2
            have i1 := cell_later HBJ.out HI1.out
            have HSLJ := Lib.hid (HSL.out.below HBJ.out)
            have HPJ := Lib.hid (HP1.out.below HBJ.out)
            have hsb : sb < wr.heap.size := World.block_lt_of_cell? _ _ j0
            have htb2 : tb < wr.heap.size := World.block_lt_of_cell? _ _ i1
            have hjm := getD_mem ts j tm0 (by rw [HL.out]; exact hjl)
            obtain ⟨z1, z2⟩ := HZ.out (ts.getD j tm0) hjm
            have hjz : (j : Int) < (n : Int) := by omega
            have hcj := hcb (keyB (ts.getD j tm0).s)
            have HNX : Hid (allowB cs (keyB tk) (ts.getD j tm0) = false → ∀ q, q < j + 1 → allowB cs (keyB tk) (ts.getD q tm0) = false) := fun h q hq => by
              by_cases e : q = j
              · rw [e]; exact h
              · exact HNO.out q (by omega)
            have HYS : Hid (allowB cs (keyB tk) (ts.getD j tm0) = true → ts.any (allowB cs (keyB tk)) = true) := fun h => List.any_eq_true.2 ⟨_, hjm, h⟩
            have HA1 : Hid (∀ W, Calls Try.prog 23 #[.string (ts.getD j tm0).t, .string tk] W fun e w' => e = .returned (.bool (decide (keyB (ts.getD j tm0).t = keyB tk))) ∧ Below W.heap.size W w') := fun W => by
              rw [← alike_key]
              exact HA.out _ _ W (by omega) (Nat.le_trans HZK.out.2 (by omega))
            have HC1 := Lib.hid (fun W (h1 : Sl W a9 n (strs (ts.map (·.s)))) (h2 : PrAt W a2 N2 ps) => HRC.out a9 c9 W h1 h2 (ts.getD j tm0).s (by omega))
            rw [show allowB cs (keyB tk) (ts.getD j tm0) = (!(ts.getD j tm0).f && decide (keyB (ts.getD j tm0).t = keyB tk) && decide (0 < cs (keyB (ts.getD j tm0).s))) from rfl] at HNX HYS
            clear hrj z1 z2 hjm HNO
            generalize cs (keyB (ts.getD j tm0).s) = cj at *
            generalize decide (keyB (ts.getD j tm0).t = keyB tk) = b1 at *
            generalize ts.getD j tm0 = y at *
            obtain ⟨ys, yt, f⟩ := y
            simp only at j0 j1 j2 HNX HYS HA1 HC1
            cases f with
            | true =>
              have HN2 := Lib.hid (HNX.out rfl)
              clear HNX HYS
              go_wp2_with fail
              refine wp_region_ext (by kernel_rfl) (by kernel_rfl) ?_
              repeat (go_big_quiet_step (fail))
              refine wpQuiet_nil ?_
              intro _ hw'
              obtain ⟨X9, hw''⟩ := hw'
              subst hw''
              go_wp2_with fail
              go_roundw
              case rel => exact ⟨j + 1, by go_num, by omega, HN2.out, HBJ.out.trans (X9.2.mono HBJ.out.size)⟩
              case measure => simp [intOf]; omega
            | false =>
              cases b1 with
              | false =>
                have HN2 := Lib.hid (HNX.out rfl)
                clear HNX HYS
                go_wp2_with fail
                refine wp_region_ext (by kernel_rfl) (by kernel_rfl) ?_
                repeat (go_big_quiet_step ((first | (go_at_call 23; exact Calls.ext (HA1.out _)) | (go_at_call 41; exact Calls.ext (HC1.out _ (HSLJ.out.ext _) (HPJ.out.below (Subtype.property _)))))))
                refine wpQuiet_nil ?_
                intro _ hw'
                obtain ⟨X9, hw''⟩ := hw'
                subst hw''
                go_wp2_with fail
                go_roundw
                case rel => exact ⟨j + 1, by go_num, by omega, HN2.out, HBJ.out.trans (X9.2.mono HBJ.out.size)⟩
                case measure => simp [intOf]; omega
              | true =>
                by_cases e3 : 0 < cj
                · have e3z : (0 : Int) < (cj : Int) := by omega
                  have e3d : decide ((0 : Int) < (cj : Int)) = true := decide_eq_true e3z
                  have HYT := HYS.out (by simp [e3])
                  have HW2 : Hid (wv = false) := by rw [Hid, HW.out, HYT]; rfl
                  clear HNX HYS HYT
                  go_wp2_with fail
                  refine wp_region_ext (by kernel_rfl) (by kernel_rfl) ?_
                  repeat (go_big_quiet_step ((first | (go_at_call 23; exact Calls.ext (HA1.out _)) | (go_at_call 41; exact Calls.ext (HC1.out _ (HSLJ.out.ext _) (HPJ.out.below (Subtype.property _)))))))
                  refine wpQuiet_nil ?_
                  intro _ hw'
                  obtain ⟨X9, hw''⟩ := hw'
                  subst hw''
                  go_wp2_with fail
                  go_ret
                  exact ⟨by rw [HW2.out]; rfl, HB3.out.trans ((HBJ.out.trans (X9.2.mono HBJ.out.size)).mono HB3.out.size)⟩
                · obtain rfl : cj = 0 := by omega
                  have HN2 := Lib.hid (HNX.out rfl)
                  clear HNX HYS
                  go_wp2_with fail
                  refine wp_region_ext (by kernel_rfl) (by kernel_rfl) ?_
                  repeat (go_big_quiet_step ((first | (go_at_call 23; exact Calls.ext (HA1.out _)) | (go_at_call 41; exact Calls.ext (HC1.out _ (HSLJ.out.ext _) (HPJ.out.below (Subtype.property _)))))))
                  refine wpQuiet_nil ?_
                  intro _ hw'
                  obtain ⟨X9, hw''⟩ := hw'
                  subst hw''
                  go_wp2_with fail
                  go_roundw
                  case rel => exact ⟨j + 1, by go_num, by omega, HN2.out, HBJ.out.trans (X9.2.mono HBJ.out.size)⟩
                  case measure => simp [intOf]; omega
          · obtain rfl : j = n := by omega
            have HW2 : Hid (wv = true) := by
              have : ts.any (allowB cs (keyB tk)) = false := by
                rw [List.any_eq_false]
                intro x hx
                obtain ⟨q, hq, rfl⟩ := List.getElem_of_mem hx
                have := HNO.out q (by rw [← HL.out]; exact hq)
                rw [List.getD_eq_getElem?_getD, List.getElem?_eq_getElem hq] at this
                simpa using this
              rw [Hid, HW.out, this]
              rfl
            go_wp2_with fail
            go_ret
            exact ⟨by rw [HW2.out]; rfl, HB3.out.trans (HBJ.out.mono HB3.out.size)⟩
      · obtain rfl : ckt = 0 := by omega
        have HW : Hid (wv = false) := by rw [Hid, HV.out]; simp
        clear HV
        go_wp2_with fail
        refine (HCK.out _ HSL.out HP1.out).mono ?_
        rintro e w2 ⟨rfl, hb⟩
        have HB2 := Lib.hid (HB1.out.trans (hb.mono HB1.out.size))
        have HSR := Lib.hid (HSR.out.below hb)
        have HQ1 := Lib.hid (HQ1.out.below hb)
        have g1 := cell_later hb g1
        clear hb
        go_wp2_with fail
        refine (HCT.out _ HSR.out HQ1.out).mono ?_
        rintro e w3 ⟨rfl, hb⟩
        have HB3 := Lib.hid (HB2.out.trans (hb.mono HB2.out.size))
        clear hb
        go_wp2_with fail
        go_ret
        exact ⟨by rw [HW.out]; rfl, HB3.out⟩
    · obtain rfl : cks = 0 := by omega
      have HW : Hid (wv = false) := by rw [Hid, HV.out]; simp
      clear HV
      go_wp2_with fail
      refine (HCK.out _ HSL.out HP1.out).mono ?_
      rintro e w2 ⟨rfl, hb⟩
      have HB2 := Lib.hid (HB1.out.trans (hb.mono HB1.out.size))
      clear hb
      go_wp2_with fail
      go_ret
      exact ⟨by rw [HW.out]; rfl, HB2.out⟩
end Go.Proofs.Ytkodnagneblgaaa
/- Walks: valid terms, by the reference. -/
namespace Go.Proofs.Ytkodnagneblgaaa
open Go.RowKit Go.Maps Go.Sort
attribute [local go_sem] Ext.cell Ext.frozen
attribute [local go_sem ↓] Go.wp_at_zero Go.wp_at_succ
theorem dup_yes {ts : List Tm} {i j : Nat} (hj : j < i) (h : (alikeB (ts.getD j tm0).s (ts.getD i tm0).s && alikeB (ts.getD j tm0).t (ts.getD i tm0).t) = true) : dupT ts i = true := by
  unfold dupT
  exact List.any_eq_true.2 ⟨j, List.mem_range.2 hj, h⟩
theorem dup_no {ts : List Tm} {i : Nat} (h : ∀ j, j < i → (alikeB (ts.getD j tm0).s (ts.getD i tm0).s && alikeB (ts.getD j tm0).t (ts.getD i tm0).t) = false) : dupT ts i = false := by
  unfold dupT
  rw [List.any_eq_false]
  intro j hj
  rw [h j (List.mem_range.1 hj)]
  decide
set_option maxRecDepth 100000 in
set_option maxHeartbeats 8000000 in
theorem rvalid_any (ts : List Tm) (ad : Option Addr) (n c : Nat) (w : World) (ht : TmAt w ad n ts) (hn : n ≤ 1000) (hz : ∀ x ∈ ts, x.s.size ≤ 100000 ∧ x.t.size ≤ 100000) :
    Calls Try.prog 16 #[.slice ad n c] w fun e w' => e = .returned (.bool (validT ts)) ∧ Below w.heap.size w w' := by
  have HL := Lib.hid ht.1
  have HT := Lib.hid ht
  have HZ := Lib.hid hz
  have HP := Lib.hid rproper_any
  have HA := Lib.hid ralike_any
  clear ht hz
  go_enter Try.func16, Try.ntmps16
  go_wp2_with fail
  go_loopw [3] (fun u wr => ∃ (i : Nat), u = .int .i64 (i : Int) ∧ i ≤ n ∧ (∀ j, j < i → okT ts j = true) ∧ Below w.heap.size w wr) (fun u _ => n - (intOf u).toNat)
  case atStart => exact ⟨0, rfl, Nat.zero_le _, fun j hj => absurd hj (Nat.not_lt_zero _), Below.refl _ _⟩
  case round =>
    obtain ⟨i, rfl, hin, hok, hbl⟩ := hrel
    have HOK := Lib.hid hok
    have HB := Lib.hid hbl
    clear hok hbl
    by_cases hlt : i < n
    · obtain ⟨_, tb, tq, hrw⟩ := HT.out.below HB.out
      have hix := fun W => hrw.ix 22 48 Try.underlying22 cellsRTm (by omega) hlt c W
      have h0 := hrw.cell i 0 hlt (by omega)
      have h1 := hrw.cell i 1 hlt (by omega)
      rw [Nat.add_zero] at h0
      simp only [tmC] at h0 h1
      have HNO := Lib.hid (valid_no (ts := ts) (i := i) (by rw [HL.out]; exact hlt))
      have HOKE : Hid (okT ts i = (properB (ts.getD i tm0).s && properB (ts.getD i tm0).t && !dupT ts i)) := rfl
      have HNX : Hid (okT ts i = true → ∀ j, j < i + 1 → okT ts j = true) := fun h j hj => by
        by_cases e : j = i
        · rw [e]; exact h
        · exact HOK.out j (by omega)
      have HDY : Hid (∀ j, j < i → (alikeB (ts.getD j tm0).s (ts.getD i tm0).s && alikeB (ts.getD j tm0).t (ts.getD i tm0).t) = true → dupT ts i = true) := fun j hj h => dup_yes hj h
      have HDN : Hid ((∀ j, j < i → (alikeB (ts.getD j tm0).s (ts.getD i tm0).s && alikeB (ts.getD j tm0).t (ts.getD i tm0).t) = false) → dupT ts i = false) := fun h => dup_no h
      obtain ⟨z1, z2⟩ := HZ.out (ts.getD i tm0) (getD_mem _ _ _ (by rw [HL.out]; exact hlt))
      have HZ1 := Lib.hid z1
      have HZ2 := Lib.hid z2
      have hlz : (i : Int) < (n : Int) := by omega
      clear hrw z1 z2 HOK
      generalize okT ts i = ok at *
      generalize dupT ts i = du at *
      generalize ts.getD i tm0 = x at *
      have HP1 : Hid (∀ W, Calls Try.prog 33 #[.string x.s] W fun e w' => e = .returned (.bool (properB x.s)) ∧ Below W.heap.size W w') := fun W => HP.out x.s W (Nat.le_trans HZ1.out (by omega))
      have HP2 : Hid (∀ W, Calls Try.prog 33 #[.string x.t] W fun e w' => e = .returned (.bool (properB x.t)) ∧ Below W.heap.size W w') := fun W => HP.out x.t W (Nat.le_trans HZ2.out (by omega))
      generalize properB x.s = p1 at *
      generalize properB x.t = p2 at *
      cases p1 with
      | false =>
        have HV : Hid (validT ts = false) := HNO.out (by rw [HOKE.out]; rfl)
        go_wp2_with fail
        refine (HP1.out _).mono ?_
        rintro e v1 ⟨rfl, hb⟩
        have HB4 := Lib.hid (HB.out.trans (hb.mono HB.out.size))
        clear hb
        go_wp2_with fail
        go_ret
        exact ⟨by rw [HV.out]; rfl, HB4.out⟩
      | true =>
        go_wp2_with fail
        refine (HP1.out _).mono ?_
        rintro e v1 ⟨rfl, hb⟩
        have HB4 := Lib.hid (HB.out.trans (hb.mono HB.out.size))
        have k0 := cell_later hb h0
        have k1 := cell_later hb h1
        clear hb HB h0 h1
        cases p2 with
        | false =>
          have HV : Hid (validT ts = false) := HNO.out (by rw [HOKE.out]; rfl)
          go_wp2_with fail
          refine (HP2.out _).mono ?_
          rintro e v2 ⟨rfl, hb⟩
          have HB5 := Lib.hid (HB4.out.trans (hb.mono HB4.out.size))
          clear hb
          go_wp2_with fail
          go_ret
          exact ⟨by rw [HV.out]; rfl, HB5.out⟩
        | true =>
          go_wp2_with fail
          refine (HP2.out _).mono ?_
          rintro e v2 ⟨rfl, hb⟩
          have HB5 := Lib.hid (HB4.out.trans (hb.mono HB4.out.size))
          have k0' := cell_later hb k0
          have k1' := cell_later hb k1
          have HK0 := Lib.hid k0'
          have HK1 := Lib.hid k1'
          clear hb HB4 k0 k1 k0' k1' HP1 HP2
          go_wp2_with fail
          go_loopw [4] (fun u wx => ∃ (j : Nat), u = .int .i64 (j : Int) ∧ j ≤ i ∧ (∀ q, q < j → (alikeB (ts.getD q tm0).s x.s && alikeB (ts.getD q tm0).t x.t) = false) ∧ Below v2.heap.size v2 wx) (fun u _ => i - (intOf u).toNat)
          case atStart => exact ⟨0, rfl, Nat.zero_le _, fun j hj => absurd hj (Nat.not_lt_zero _), Below.refl _ _⟩
          case round =>
            obtain ⟨j, rfl, hji, hno, hbl⟩ := hrel
            have HNJ := Lib.hid hno
            have HBJ := Lib.hid hbl
            clear hno hbl
            by_cases hjl : j < i
            · have hjn : j < n := by omega
              obtain ⟨_, sb, sq, hrj⟩ := HT.out.below (HB5.out.trans (HBJ.out.mono HB5.out.size))
              have hixj := fun W => hrj.ix 22 48 Try.underlying22 cellsRTm (by omega) hjn c W
              have j0 := hrj.cell j 0 hjn (by omega)
              have j1 := hrj.cell j 1 hjn (by omega)
              rw [Nat.add_zero] at j0
              simp only [tmC] at j0 j1
              have i0 := cell_later HBJ.out HK0.out
              have i1 := cell_later HBJ.out HK1.out
              have hsb := World.block_lt_of_cell? _ _ j0
              have htb := World.block_lt_of_cell? _ _ i0
              simp only at hsb htb
              obtain ⟨z1, z2⟩ := HZ.out (ts.getD j tm0) (getD_mem _ _ _ (by rw [HL.out]; exact hjn))
              have HDY1 := Lib.hid (HDY.out j hjl)
              have HNJ2 : Hid ((alikeB (ts.getD j tm0).s x.s && alikeB (ts.getD j tm0).t x.t) = false → ∀ q, q < j + 1 → (alikeB (ts.getD q tm0).s x.s && alikeB (ts.getD q tm0).t x.t) = false) := fun h q hq => by
                by_cases e : q = j
                · rw [e]; exact h
                · exact HNJ.out q (by omega)
              have HA1 : Hid (∀ W, Calls Try.prog 23 #[.string (ts.getD j tm0).s, .string x.s] W fun e w' => e = .returned (.bool (alikeB (ts.getD j tm0).s x.s)) ∧ Below W.heap.size W w') := fun W => HA.out _ _ W (by omega) (Nat.le_trans HZ1.out (by omega))
              have HA2 : Hid (∀ W, Calls Try.prog 23 #[.string (ts.getD j tm0).t, .string x.t] W fun e w' => e = .returned (.bool (alikeB (ts.getD j tm0).t x.t)) ∧ Below W.heap.size W w') := fun W => HA.out _ _ W (by omega) (Nat.le_trans HZ2.out (by omega))
              have hjz : (j : Int) < (i : Int) := by omega
              clear hrj z1 z2
              generalize alikeB (ts.getD j tm0).s x.s = b1 at *
              generalize alikeB (ts.getD j tm0).t x.t = b2 at *
              generalize ts.getD j tm0 = y at *
              cases b1 with
              | false =>
                have HN2 := Lib.hid (HNJ2.out rfl)
                clear HNJ2 HDY1
                go_wp2_with fail
                refine wp_region_ext (by kernel_rfl) (by kernel_rfl) ?_
                repeat (go_big_quiet_step (first | (go_at_call 23; exact Calls.ext (HA1.out _))))
                refine wpQuiet_nil ?_
                intro _ hw'
                obtain ⟨X9, hw''⟩ := hw'
                subst hw''
                go_wp2_with fail
                go_roundw
                case rel => exact ⟨j + 1, by go_num, by omega, HN2.out, HBJ.out.trans (X9.2.mono HBJ.out.size)⟩
                case measure => simp [intOf]; omega
              | true =>
                cases b2 with
                | false =>
                  have HN2 := Lib.hid (HNJ2.out rfl)
                  clear HNJ2 HDY1
                  go_wp2_with fail
                  refine wp_region_ext (by kernel_rfl) (by kernel_rfl) ?_
                  repeat (go_big_quiet_step (first | (go_at_call 23; first | exact Calls.ext (HA1.out _) | exact Calls.ext (HA2.out _))))
                  refine wpQuiet_nil ?_
                  intro _ hw'
                  obtain ⟨X9, hw''⟩ := hw'
                  subst hw''
                  go_wp2_with fail
                  go_roundw
                  case rel => exact ⟨j + 1, by go_num, by omega, HN2.out, HBJ.out.trans (X9.2.mono HBJ.out.size)⟩
                  case measure => simp [intOf]; omega
                | true =>
                  have HDU : Hid (du = true) := HDY1.out rfl
                  have HV : Hid (validT ts = false) := HNO.out (by rw [HOKE.out, HDU.out]; rfl)
                  clear HNJ2 HDY1 HDU
                  go_wp2_with fail
                  refine wp_region_ext (by kernel_rfl) (by kernel_rfl) ?_
                  repeat (go_big_quiet_step (first | (go_at_call 23; first | exact Calls.ext (HA1.out _) | exact Calls.ext (HA2.out _))))
                  refine wpQuiet_nil ?_
                  intro _ hw'
                  obtain ⟨X9, hw''⟩ := hw'
                  subst hw''
                  go_wp2_with fail
                  go_ret
                  exact ⟨by rw [HV.out]; rfl, HB5.out.trans ((HBJ.out.trans (X9.2.mono HBJ.out.size)).mono HB5.out.size)⟩
            · obtain rfl : j = i := by omega
              have HDU : Hid (du = false) := HDN.out HNJ.out
              have HN2 := Lib.hid (HNX.out (by rw [HOKE.out, HDU.out]; rfl))
              have HB6 := Lib.hid (HB5.out.trans (HBJ.out.mono HB5.out.size))
              clear HDU HNX
              go_wp2_with fail
              go_roundw
              case rel => exact ⟨j + 1, by go_num, by omega, HN2.out, HB6.out⟩
              case measure => simp [intOf]; omega
    · obtain rfl : i = n := by omega
      have HF : Hid (validT ts = decide ((i : Int) ≤ 200)) := by
        rw [Hid, valid_end (fun j hj => HOK.out j (by rw [← HL.out]; exact hj)), HL.out, Bool.eq_iff_iff, decide_eq_true_eq, decide_eq_true_eq]
        omega
      go_wp2_with fail
      go_ret
      exact ⟨by rw [HF.out]; rfl, HB.out⟩
end Go.Proofs.Ytkodnagneblgaaa
/- Walks: Check by the reference: the first part. -/
namespace Go.Proofs.Ytkodnagneblgaaa
open Go.RowKit Go.Maps Go.Sort
attribute [local go_sem] Ext.cell Ext.frozen
attribute [local go_sem ↓] Go.wp_at_zero Go.wp_at_succ
/-- the places in the source, in the target -/
def plS (ts : List Tm) (s : ByteArray) : List (Nat × Nat) := findL ((ts.map (·.s)).map wordsB) (wordsB s)
def plT (ts : List Tm) (s : ByteArray) : List (Nat × Nat) := findL ((ts.map (·.t)).map wordsB) (wordsB s)
noncomputable def rcC (n : Nat) : Code := fromReg n ((Try.f12.body).getD .skip)
set_option maxRecDepth 100000 in
set_option maxHeartbeats 8000000 in
theorem rc_first (ts : List Tm) (source target : ByteArray) (ad : Option Addr) (n c : Nat) (w : World) (RR : Ending → World → Prop) (ht : TmAt w ad n ts) (hn : n ≤ 40) (hz : ∀ x ∈ ts, x.s.size ≤ 100000 ∧ x.t.size ≤ 100000)
    (hbad : ∀ w', validT ts = false → Below w.heap.size w w' → RR (.returned (.tuple #[.slice none 0 0, .int .i64 1])) w')
    (hlong : ∀ w', validT ts = true → (20000 < source.size ∨ 20000 < target.size) → Below w.heap.size w w' → RR (.returned (.tuple #[.slice none 0 0, .int .i64 6])) w')
    (hnext : ∀ (wr : World) (v1 v2 : Value) (a2 a3 : Option Addr) (N2 c2 N3 c3 : Nat) (u3 u4 u5 u6 u7 u12 u13 u14 u15 u16 u17 u18 u19 u20 u21 u22 u23 u24 u25 u26 u27 u28 u29 u30 u31 u32 u33 u34 u35 u36 u37 u38 u39 u40 u41 u42 u43 u44 u45 u46 u47 u48 u49 u50 u51 u52 u53 u54 u55 u56 u57 u58 u59 u60 u61 u62 u63 u64 u65 u66 u67 u68 u69 u70 u71 u72 u73 u74 u75 u76 u77 u78 u79 u80 u81 u82 u83 u84 u85 u86 u87 : Value), validT ts = true → source.size ≤ 20000 → target.size ≤ 20000 → PrAt wr a2 N2 (plS ts source) → PrAt wr a3 N3 (plT ts target) → Below w.heap.size w wr →
      (rcC 7).wp Try.prog (bodyPost Try.prog Try.f12 RR) ⟨#[.slice ad n c, .string source, .string target, u3, u4, u5, u6, u7, v1, v2, .slice a2 N2 c2, .slice a3 N3 c3, u12, u13, u14, u15, u16, u17, u18, u19, u20, u21, u22, u23, u24, u25, u26, u27, u28, u29, u30, u31, u32, u33, u34, u35, u36, u37, u38, u39, u40, u41, u42, u43, u44, u45, u46, u47, u48, u49, u50, u51, u52, u53, u54, u55, u56, u57, u58, u59, u60, u61, u62, u63, u64, u65, u66, u67, u68, u69, u70, u71, u72, u73, u74, u75, u76, u77, u78, u79, u80, u81, u82, u83, u84, u85, u86, u87], []⟩ wr) :
    Calls Try.prog 12 #[.slice ad n c, .string source, .string target] w RR := by
  have HT := Lib.hid ht
  have HL := Lib.hid ht.1
  have HN := Lib.hid hnext
  have HBAD := Lib.hid hbad
  have HLONG := Lib.hid hlong
  have HV := Lib.hid (rvalid_any ts ad n c w ht (by omega) hz)
  have HST := Lib.hid (fun W (h : TmAt W ad n ts) => rstrings_any ts ad n c W h (by omega))
  have HF1 := Lib.hid (fun (hs : source.size ≤ 20000) a1 c1 W (h : Sl W a1 n (strs (ts.map (·.s)))) => rfind_any (ts.map (·.s)) a1 n c1 source W h hn (fun s h => by obtain ⟨x, hx, rfl⟩ := List.mem_map.1 h; have := (hz x hx).1; omega) (by omega))
  have HF2 := Lib.hid (fun (hs : target.size ≤ 20000) a1 c1 W (h : Sl W a1 n (strs (ts.map (·.t)))) => rfind_any (ts.map (·.t)) a1 n c1 target W h hn (fun s h => by obtain ⟨x, hx, rfl⟩ := List.mem_map.1 h; have := (hz x hx).2; omega) (by omega))
  clear ht hz hnext hbad hlong
  change Hid ((hs : source.size ≤ 20000) → ∀ a1 c1 W (h : Sl W a1 n (strs (ts.map (·.s)))), Calls _ _ _ _ fun e w' => ∃ ad' c', e = .returned (.slice ad' (plS ts source).length c') ∧ PrR w' _ (.slice ad' (plS ts source).length c') (plS ts source) ∧ _) at HF1
  change Hid ((hs : target.size ≤ 20000) → ∀ a1 c1 W (h : Sl W a1 n (strs (ts.map (·.t)))), Calls _ _ _ _ fun e w' => ∃ ad' c', e = .returned (.slice ad' (plT ts target).length c') ∧ PrR w' _ (.slice ad' (plT ts target).length c') (plT ts target) ∧ _) at HF2
  generalize plS ts source = ps at *
  generalize plT ts target = pt at *
  generalize hvt : validT ts = vt at *
  clear hvt
  go_enter Try.func12, Try.ntmps12
  go_wp2_with fail
  refine HV.out.mono ?_
  rintro e w1 ⟨rfl, hb⟩
  have HB1 := Lib.hid hb
  clear hb HV
  cases vt with
  | false =>
    go_wp2_with fail
    exact HBAD.out _ (by trivial) HB1.out
  | true =>
    by_cases h1 : 20000 < source.size
    · have h1z : (20000 : Int) < (source.size : Int) := by omega
      have h1d : decide ((20000 : Int) < (source.size : Int)) = true := decide_eq_true h1z
      go_wp2_with fail
      exact HLONG.out _ (by trivial) (.inl h1) HB1.out
    · have h1z : ¬ (20000 : Int) < (source.size : Int) := by omega
      have h1d : decide ((20000 : Int) < (source.size : Int)) = false := decide_eq_false h1z
      by_cases h2 : 20000 < target.size
      · have h2z : (20000 : Int) < (target.size : Int) := by omega
        have h2d : decide ((20000 : Int) < (target.size : Int)) = true := decide_eq_true h2z
        go_wp2_with fail
        exact HLONG.out _ (by trivial) (.inr h2) HB1.out
      · have h2z : ¬ (20000 : Int) < (target.size : Int) := by omega
        have h2d : decide ((20000 : Int) < (target.size : Int)) = false := decide_eq_false h2z
        have HN2 := Lib.hid (fun (wr : World) (v1 v2 : Value) (a2 a3 : Option Addr) (N2 c2 N3 c3 : Nat) (u3 u4 u5 u6 u7 u12 u13 u14 u15 u16 u17 u18 u19 u20 u21 u22 u23 u24 u25 u26 u27 u28 u29 u30 u31 u32 u33 u34 u35 u36 u37 u38 u39 u40 u41 u42 u43 u44 u45 u46 u47 u48 u49 u50 u51 u52 u53 u54 u55 u56 u57 u58 u59 u60 u61 u62 u63 u64 u65 u66 u67 u68 u69 u70 u71 u72 u73 u74 u75 u76 u77 u78 u79 u80 u81 u82 u83 u84 u85 u86 u87 : Value) => HN.out wr v1 v2 a2 a3 N2 c2 N3 c3 u3 u4 u5 u6 u7 u12 u13 u14 u15 u16 u17 u18 u19 u20 u21 u22 u23 u24 u25 u26 u27 u28 u29 u30 u31 u32 u33 u34 u35 u36 u37 u38 u39 u40 u41 u42 u43 u44 u45 u46 u47 u48 u49 u50 u51 u52 u53 u54 u55 u56 u57 u58 u59 u60 u61 u62 u63 u64 u65 u66 u67 u68 u69 u70 u71 u72 u73 u74 u75 u76 u77 u78 u79 u80 u81 u82 u83 u84 u85 u86 u87 rfl (by omega) (by omega))
        have HG1 := Lib.hid (HF1.out (by omega))
        have HG2 := Lib.hid (HF2.out (by omega))
        clear HN HBAD HLONG HF1 HF2
        go_wp2_with fail
        refine (HST.out _ (HT.out.below HB1.out)).mono ?_
        rintro e w2 ⟨v1, v2, rfl, htw, hb⟩
        have HB2 := Lib.hid (HB1.out.trans (hb.mono HB1.out.size))
        obtain ⟨a9, c9, rfl⟩ := htw.r1.form
        obtain ⟨a10, c10, rfl⟩ := htw.r2.form
        have hm1 : (ts.map (·.s)).length = n := by rw [List.length_map]; exact HL.out
        have hm2 : (ts.map (·.t)).length = n := by rw [List.length_map]; exact HL.out
        have hr1 := htw.r1
        have hr2 := htw.r2
        unfold StrR at hr1 hr2
        rw [hm1] at hr1 ⊢
        rw [hm2] at hr2 ⊢
        have HSL := Lib.hid (Own.sl hr1)
        have HSR := Lib.hid (Own.sl hr2)
        clear htw hb hr1 hr2 hm1 hm2 HST HB1
        go_upto_region 6 with (fail)
        rename_i K9 hK9
        have HK9 := Lib.hid hK9
        clear hK9
        go_wp2_with fail
        refine (HG1.out a9 c9 _ HSL.out).mono ?_
        rintro e w3 ⟨a2, c2, rfl, hp, hb⟩
        have HB3 := Lib.hid (HB2.out.trans (hb.mono HB2.out.size))
        have HSR := Lib.hid (HSR.out.below hb)
        have HP3 := Lib.hid (PrR.at hp)
        clear hp hb HB2 HSL
        go_wp2_with fail
        refine (HG2.out a10 c10 _ HSR.out).mono ?_
        rintro e w4 ⟨a3, c3, rfl, hp, hb⟩
        have HB4 := Lib.hid (HB3.out.trans (hb.mono HB3.out.size))
        have HP4 := Lib.hid (HP3.out.below hb)
        have HQ4 := Lib.hid (PrR.at hp)
        clear hp hb HB3 HP3 HSR
        go_wp2_with fail
        refine HK9.out _ _ ?_
        exact HN2.out w4 _ _ a2 a3 _ c2 _ c3 _ _ _ _ _ _ _ _ _ _ _ _ _ _ _ _ _ _ _ _ _ _ _ _ _ _ _ _ _ _ _ _ _ _ _ _ _ _ _ _ _ _ _ _ _ _ _ _ _ _ _ _ _ _ _ _ _ _ _ _ _ _ _ _ _ _ _ _ _ _ _ _ _ _ _ _ _ _ _ _ _ HP4.out HQ4.out HB4.out
end Go.Proofs.Ytkodnagneblgaaa
