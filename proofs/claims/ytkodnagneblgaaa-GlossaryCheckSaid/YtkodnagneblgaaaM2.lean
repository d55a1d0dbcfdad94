/- Texts laid together: I3 I4 I5 I6 I7 J1 L4. -/
import Derived.Test.YtkodnagneblgaaaI2
import Derived.Test.YtkodnagneblgaaaG8
import Derived.Test.YtkodnagneblgaaaM1
namespace Go.Proofs.Ytkodnagneblgaaa
open Go.RowKit Go.Maps Go.Sort
attribute [local go_sem] Ext.cell Ext.frozen
attribute [local go_sem ↓] Go.wp_at_zero Go.wp_at_succ
/-- an allowed term with this source -/
def allowT (sk : ByteArray) (x : Tm) : Bool := !x.f && alikeB x.s sk
/-- what the reference's missing answers -/
def rmissV (ts : List Tm) (ps pt : List (Nat × Nat)) (k : Nat) : Bool :=
  ts.any (allowT (ts.getD k tm0).s) && decide (goodN ts (ts.getD k tm0).s pt < cntV ((ts.map (·.s)).map keyB) ps (keyB (ts.getD k tm0).s))
set_option maxRecDepth 100000 in
set_option maxHeartbeats 8000000 in
theorem rm_second (ts : List Tm) (ps : List (Nat × Nat)) (ad : Option Addr) (n c k M : Nat) (a2 : Option Addr) (N2 c2 : Nat) (a3 : Option Addr) (N3 c3 : Nat) (w0 w : World) (v1 v2 : Value) (u4 u5 u6 u7 u8 u13 u14 u15 u16 u17 u18 u19 u20 u21 u22 u23 u24 u25 u26 u27 u28 u29 u30 u31 u32 u33 u34 u35 u36 u37 u38 u39 u40 u41 u42 u43 u44 u45 u46 u47 u48 u49 u50 u51 u52 u53 u54 u55 u56 u57 u58 u59 u60 u61 u62 u63 u64 u65 u66 u67 u68 u69 u70 u71 u72 u73 u74 u75 u76 u77 u78 u79 u80 u81 u82 u83 u84 u85 u86 u87 u88 u89 u90 u91 u92 u93 u94 u95 u96 u97 u98 u99 u100 u101 u102 u103 u104 u105 u106 u107 u108 u109 u110 u111 u112 u113 u114 u115 : Value) (ht : TmAt w ad n ts) (hk : k < n) (hn : n ≤ 1000) (hz : ∀ x ∈ ts, x.s.size ≤ 100000 ∧ x.t.size ≤ 100000) (hps : PrAt w a2 N2 ps) (hN2 : N2 ≤ 1000001) (hm : ∀ p ∈ ps, p.1 < n) (_hM : M ≤ 1000001)
    (hr : StrR w w0.heap.size v1 (ts.map (·.s))) (hb0 : Below w0.heap.size w0 w) :
    (rmC 13).wp Try.prog (bodyPost Try.prog Try.f29 fun e w' => e = .returned (.bool (ts.any (allowT (ts.getD k tm0).s) && decide (M < cntV ((ts.map (·.s)).map keyB) ps (keyB (ts.getD k tm0).s)))) ∧ Below w0.heap.size w0 w') ⟨#[.slice ad n c, .int .i64 (k : Int), .slice a2 N2 c2, .slice a3 N3 c3, u4, u5, u6, u7, u8, v1, v2, .bool false, .int .i64 (M : Int), u13, u14, u15, u16, u17, u18, u19, u20, u21, u22, u23, u24, u25, u26, u27, u28, u29, u30, u31, u32, u33, u34, u35, u36, u37, u38, u39, u40, u41, u42, u43, u44, u45, u46, u47, u48, u49, u50, u51, u52, u53, u54, u55, u56, u57, u58, u59, u60, u61, u62, u63, u64, u65, u66, u67, u68, u69, u70, u71, u72, u73, u74, u75, u76, u77, u78, u79, u80, u81, u82, u83, u84, u85, u86, u87, u88, u89, u90, u91, u92, u93, u94, u95, u96, u97, u98, u99, u100, u101, u102, u103, u104, u105, u106, u107, u108, u109, u110, u111, u112, u113, u114, u115], []⟩ w := by
  have HL := Lib.hid ht.1
  have HT := Lib.hid ht
  have HZ := Lib.hid hz
  have HB0 := Lib.hid hb0
  have HZK := Lib.hid (hz (ts.getD k tm0) (getD_mem _ _ _ (by rw [HL.out]; exact hk)))
  have HA := Lib.hid ralike_any
  obtain ⟨a9, c9, rfl⟩ := hr.form
  have hml : (ts.map (·.s)).length = n := by rw [List.length_map]; exact HL.out
  unfold StrR at hr
  rw [hml] at hr ⊢
  have HSL := Lib.hid (Own.sl hr)
  have HRC := Lib.hid (fun W (h1 : Sl W a9 n (strs (ts.map (·.s)))) (h2 : PrAt W a2 N2 ps) => rcount_any (ts.map (·.s)) ps (ts.getD k tm0).s a9 n c9 a2 N2 c2 W h1 h2 hn hN2 (fun s h => by obtain ⟨x, hx, rfl⟩ := List.mem_map.1 h; have := (hz x hx).1; omega) (Nat.le_trans HZK.out.1 (by omega)) hm)
  have HP := Lib.hid hps
  have hcb : cntV ((ts.map (·.s)).map keyB) ps (keyB (ts.getD k tm0).s) ≤ 1000001 := Nat.le_trans (cntV_le _ _ _) (by rw [hps.1]; exact hN2)
  clear ht hz hb0 hr hml hps hm
  generalize cntV ((ts.map (·.s)).map keyB) ps (keyB (ts.getD k tm0).s) = cv at *
  obtain ⟨sk, hsk⟩ : ∃ sk, (ts.getD k tm0).s = sk := ⟨_, rfl⟩
  rw [hsk] at HRC HZK ⊢
  have HSK := Lib.hid hsk
  clear hsk
  obtain ⟨_, tb, tq, hrk⟩ := HT.out
  have hixk := fun W => hrk.ix 22 48 Try.underlying22 cellsRTm (by omega) hk c W
  have k0 := hrk.cell k 0 hk (by omega)
  rw [Nat.add_zero] at k0
  simp only [tmC] at k0
  rw [HSK.out] at k0
  have HI0 := Lib.hid k0
  clear hrk k0
  obtain ⟨PP, hPP⟩ : ∃ PP, allowT sk = PP := ⟨_, rfl⟩
  rw [hPP]
  unfold rmC
  dsimp only
  conv => arg 2; whnf
  go_wp2_with fail
  go_loopw [11, 16] (fun v u wr => ∃ (j : Nat) (gd : Bool), u = .int .i64 (j : Int) ∧ v = .bool gd ∧ j ≤ n ∧ (ts.take j).any PP = gd ∧ Below w.heap.size w wr) (fun _ u _ => n - (intOf u).toNat)
  case atStart => exact ⟨0, false, rfl, rfl, Nat.zero_le _, rfl, Below.refl _ _⟩
  case round =>
    obtain ⟨j, gd, rfl, rfl, hjn, hgd, hbl⟩ := hrel
    have HG := Lib.hid hgd
    have HBJ := Lib.hid hbl
    clear hgd hbl
    by_cases hjl : j < n
    · obtain ⟨_, sb, sq, hrj⟩ := HT.out.below HBJ.out
      have hixj := fun W => hrj.ix 22 48 Try.underlying22 cellsRTm (by omega) hjl c W
      have j0 := hrj.cell j 0 hjl (by omega)
      have j1 := hrj.cell j 1 hjl (by omega)
      have j2 := hrj.cell j 2 hjl (by omega)
      rw [Nat.add_zero] at j0
      simp only [tmC] at j0 j1 j2
      have i0 := cell_later HBJ.out HI0.out
      have hsb : sb < wr.heap.size := World.block_lt_of_cell? _ _ j0
      have htb : tb < wr.heap.size := World.block_lt_of_cell? _ _ i0
      have HAT := Lib.hid (any_take_g PP ts j (by rw [HL.out]; exact hjl))
      rw [HG.out] at HAT
      obtain ⟨z1, z2⟩ := HZ.out (ts.getD j tm0) (getD_mem _ _ _ (by rw [HL.out]; exact hjl))
      have hjz : (j : Int) < (n : Int) := by omega
      have HA1 : Hid (∀ W, Calls Try.prog 23 #[.string (ts.getD j tm0).s, .string sk] W fun e w' => e = .returned (.bool (alikeB (ts.getD j tm0).s sk)) ∧ Below W.heap.size W w') := fun W => HA.out _ _ W (by omega) (Nat.le_trans HZK.out.1 (by omega))
      rw [show PP (ts.getD j tm0) = (!(ts.getD j tm0).f && alikeB (ts.getD j tm0).s sk) by rw [← hPP]; rfl] at HAT
      clear hrj z1 z2
      generalize alikeB (ts.getD j tm0).s sk = b1 at *
      generalize ts.getD j tm0 = y at *
      obtain ⟨ys, yt, f⟩ := y
      simp only at j0 j1 j2 HAT HA1
      cases gd with
      | true =>
        have HG2 : Hid ((ts.take (j + 1)).any PP = true) := by rw [Hid, HAT.out]; rfl
        clear HAT
        go_wp2_with fail
        refine wp_region_ext (by kernel_rfl) (by kernel_rfl) ?_
        repeat (go_big_quiet_step (fail))
        refine wpQuiet_nil ?_
        intro _ hw'
        obtain ⟨X9, hw''⟩ := hw'
        subst hw''
        go_wp2_with fail
        go_roundw
        case rel => exact ⟨j + 1, true, by go_num, rfl, by omega, HG2.out, HBJ.out.trans (X9.2.mono HBJ.out.size)⟩
        case measure => simp [intOf]; omega
      | false =>
        cases f with
        | true =>
          have HG2 : Hid ((ts.take (j + 1)).any PP = false) := by rw [Hid, HAT.out]; rfl
          clear HAT
          go_wp2_with fail
          refine wp_region_ext (by kernel_rfl) (by kernel_rfl) ?_
          repeat (go_big_quiet_step (fail))
          refine wpQuiet_nil ?_
          intro _ hw'
          obtain ⟨X9, hw''⟩ := hw'
          subst hw''
          go_wp2_with fail
          go_roundw
          case rel => exact ⟨j + 1, false, by go_num, rfl, by omega, HG2.out, HBJ.out.trans (X9.2.mono HBJ.out.size)⟩
          case measure => simp [intOf]; omega
        | false =>
          cases b1 with
          | false =>
            have HG2 : Hid ((ts.take (j + 1)).any PP = false) := by rw [Hid, HAT.out]; rfl
            clear HAT
            go_wp2_with fail
            refine wp_region_ext (by kernel_rfl) (by kernel_rfl) ?_
            repeat (go_big_quiet_step ((first | (go_at_call 23; exact Calls.ext (HA1.out _)))))
            refine wpQuiet_nil ?_
            intro _ hw'
            obtain ⟨X9, hw''⟩ := hw'
            subst hw''
            go_wp2_with fail
            go_roundw
            case rel => exact ⟨j + 1, false, by go_num, rfl, by omega, HG2.out, HBJ.out.trans (X9.2.mono HBJ.out.size)⟩
            case measure => simp [intOf]; omega
          | true =>
            have HG2 : Hid ((ts.take (j + 1)).any PP = true) := by rw [Hid, HAT.out]; rfl
            clear HAT
            go_wp2_with fail
            refine wp_region_ext (by kernel_rfl) (by kernel_rfl) ?_
            repeat (go_big_quiet_step ((first | (go_at_call 23; exact Calls.ext (HA1.out _)))))
            refine wpQuiet_nil ?_
            intro _ hw'
            obtain ⟨X9, hw''⟩ := hw'
            subst hw''
            go_wp2_with fail
            go_roundw
            case rel => exact ⟨j + 1, true, by go_num, rfl, by omega, HG2.out, HBJ.out.trans (X9.2.mono HBJ.out.size)⟩
            case measure => simp [intOf]; omega
    · obtain rfl : j = n := by omega
      have hgd := HG.out
      rw [List.take_of_length_le (by rw [HL.out]; exact Nat.le_refl _)] at hgd
      have HGD := Lib.hid hgd
      have HB5 := Lib.hid (HB0.out.trans (HBJ.out.mono HB0.out.size))
      have i0 := cell_later HBJ.out HI0.out
      clear hgd HG
      cases gd with
      | false =>
        go_wp2_with fail
        go_ret
        exact ⟨by rw [HGD.out]; rfl, HB5.out⟩
      | true =>
        go_wp2_with fail
        refine (HRC.out _ (HSL.out.below HBJ.out) (HP.out.below HBJ.out)).mono ?_
        rintro e w7 ⟨rfl, hb⟩
        have HB7 := Lib.hid (HB5.out.trans (hb.mono HB5.out.size))
        have HD : Hid (decide (M < cv) = decide ((M : Int) < (cv : Int))) := by rw [Hid, Bool.eq_iff_iff, decide_eq_true_eq, decide_eq_true_eq]; omega
        clear hb
        go_wp2_with fail
        go_ret
        exact ⟨by rw [HGD.out, HD.out]; first | rfl | simp, HB7.out⟩
end Go.Proofs.Ytkodnagneblgaaa
namespace Go.Proofs.Ytkodnagneblgaaa
open Go.RowKit Go.Maps Go.Sort
attribute [local go_sem] Ext.cell Ext.frozen
attribute [local go_sem ↓] Go.wp_at_zero Go.wp_at_succ
theorem rmissing_any (ts : List Tm) (ps pt : List (Nat × Nat)) (ad : Option Addr) (n c k : Nat) (a2 : Option Addr) (N2 c2 : Nat) (a3 : Option Addr) (N3 c3 : Nat) (w : World) (ht : TmAt w ad n ts) (hk : k < n) (hn : n ≤ 1000) (hz : ∀ x ∈ ts, x.s.size ≤ 100000 ∧ x.t.size ≤ 100000) (hps : PrAt w a2 N2 ps) (hN2 : N2 ≤ 1000001) (hm2 : ∀ p ∈ ps, p.1 < n)
    (hpt : PrAt w a3 N3 pt) (hN3 : N3 ≤ 1000001) (hm : ∀ p ∈ pt, p.1 < n) :
    Calls Try.prog 29 #[.slice ad n c, .int .i64 (k : Int), .slice a2 N2 c2, .slice a3 N3 c3] w fun e w' => e = .returned (.bool (rmissV ts ps pt k)) ∧ Below w.heap.size w w' := by
  refine rm_first ts ps pt ad n c k a2 N2 c2 a3 N3 c3 w _ ht hk hn hz hpt hN3 hm ?_
  intro wr v1 v2
  intros
  rename_i h1 h2
  exact rm_second ts ps ad n c k _ a2 N2 c2 a3 N3 c3 w wr v1 v2 _ _ _ _ _ _ _ _ _ _ _ _ _ _ _ _ _ _ _ _ _ _ _ _ _ _ _ _ _ _ _ _ _ _ _ _ _ _ _ _ _ _ _ _ _ _ _ _ _ _ _ _ _ _ _ _ _ _ _ _ _ _ _ _ _ _ _ _ _ _ _ _ _ _ _ _ _ _ _ _ _ _ _ _ _ _ _ _ _ _ _ _ _ _ _ _ _ _ _ _ _ _ _ _ _ _ _ _ (ht.below h2) hk hn hz (hps.below h2) hN2 hm2 (Nat.le_trans (List.length_filter_le _ _) (by rw [hpt.1]; exact hN3)) h1 h2
set_option maxRecDepth 100000 in
set_option maxHeartbeats 8000000 in
theorem rwrong_any (ts : List Tm) (ps pt : List (Nat × Nat)) (ad : Option Addr) (n c k : Nat) (a2 : Option Addr) (N2 c2 : Nat) (a3 : Option Addr) (N3 c3 : Nat) (w : World) (ht : TmAt w ad n ts) (hk : k < n) (hn : n ≤ 1000) (hz : ∀ x ∈ ts, x.s.size ≤ 100000 ∧ x.t.size ≤ 100000) (hps : PrAt w a2 N2 ps) (hN2 : N2 ≤ 1000001) (hm2 : ∀ p ∈ ps, p.1 < n)
    (hpt : PrAt w a3 N3 pt) (hN3 : N3 ≤ 1000001) (hm : ∀ p ∈ pt, p.1 < n) :
    Calls Try.prog 30 #[.slice ad n c, .int .i64 (k : Int), .slice a2 N2 c2, .slice a3 N3 c3] w fun e w' => e = .returned (.bool (wrongV ts (cntV ((ts.map (·.s)).map keyB) ps) (cntV ((ts.map (·.t)).map keyB) pt) k)) ∧ Below w.heap.size w w' := by
  have HL := Lib.hid ht.1
  have HT := Lib.hid ht
  have HZ := Lib.hid hz
  have HA := Lib.hid ralike_any
  have HP2 := Lib.hid hps
  have HP3 := Lib.hid hpt
  have HST := Lib.hid (rstrings_any ts ad n c w ht hn)
  have HRC := Lib.hid (fun a9 c9 W (h1 : Sl W a9 n (strs (ts.map (·.s)))) (h2 : PrAt W a2 N2 ps) (s : ByteArray) (h3 : s.size ≤ 1000000) => rcount_any (ts.map (·.s)) ps s a9 n c9 a2 N2 c2 W h1 h2 hn hN2 (fun s h => by obtain ⟨x, hx, rfl⟩ := List.mem_map.1 h; have := (hz x hx).1; omega) h3 hm2)
  have HRT := Lib.hid (fun a9 c9 W (h1 : Sl W a9 n (strs (ts.map (·.t)))) (h2 : PrAt W a3 N3 pt) (s : ByteArray) (h3 : s.size ≤ 1000000) => rcount_any (ts.map (·.t)) pt s a9 n c9 a3 N3 c3 W h1 h2 hn hN3 (fun s h => by obtain ⟨x, hx, rfl⟩ := List.mem_map.1 h; have := (hz x hx).2; omega) h3 hm)
  have hcb : ∀ t, cntV ((ts.map (·.s)).map keyB) ps t ≤ 1000001 := fun t => Nat.le_trans (cntV_le _ _ _) (by rw [hps.1]; exact hN2)
  have htb : ∀ t, cntV ((ts.map (·.t)).map keyB) pt t ≤ 1000001 := fun t => Nat.le_trans (cntV_le _ _ _) (by rw [hpt.1]; exact hN3)
  have HZK := Lib.hid (hz (ts.getD k tm0) (getD_mem _ _ _ (by rw [HL.out]; exact hk)))
  obtain ⟨_, tb, tq, hrk⟩ := ht
  have hixk := fun W => hrk.ix 22 48 Try.underlying22 cellsRTm (by omega) hk c W
  have k0 := hrk.cell k 0 hk (by omega)
  have k1 := hrk.cell k 1 hk (by omega)
  have k2 := hrk.cell k 2 hk (by omega)
  rw [Nat.add_zero] at k0
  simp only [tmC] at k0 k1 k2
  clear hz hps hpt hm hm2 hrk
  generalize cntV ((ts.map (·.s)).map keyB) ps = cs at *
  generalize cntV ((ts.map (·.t)).map keyB) pt = ct at *
  have HV : Hid (wrongV ts cs ct k = ((ts.getD k tm0).f && decide (0 < cs (keyB (ts.getD k tm0).s)) && decide (0 < ct (keyB (ts.getD k tm0).t)) && !(ts.any (allowB cs (keyB (ts.getD k tm0).t))))) := rfl
  generalize wrongV ts cs ct k = wv at *
  generalize ts.getD k tm0 = x at *
  obtain ⟨sk, tk, f⟩ := x
  simp only at k0 k1 k2 HZK HV
  have HI0 := Lib.hid k0
  have HI1 := Lib.hid k1
  have HI2 := Lib.hid k2
  clear k0 k1 k2
  have hc1 := hcb (keyB sk)
  have hc2 := htb (keyB tk)
  go_enter Try.func30, Try.ntmps30
  go_wp2_with fail
  refine HST.out.mono ?_
  rintro e w1 ⟨v1, v2, rfl, htw, hb⟩
  have HB1 := Lib.hid hb
  obtain ⟨a9, c9, rfl⟩ := htw.r1.form
  obtain ⟨a10, c10, rfl⟩ := htw.r2.form
  have hm1 : (ts.map (·.s)).length = n := by rw [List.length_map]; exact HL.out
  have hm2 : (ts.map (·.t)).length = n := by rw [List.length_map]; exact HL.out
  have hr1 := htw.r1
  have hr2 := htw.r2
  unfold StrR at hr1 hr2
  rw [hm1] at hr1 ⊢
  rw [hm2] at hr2 ⊢
  have HSL := Lib.hid (Own.sl hr1)
  have HSR := Lib.hid (Own.sl hr2)
  have HP1 := Lib.hid (HP2.out.below hb)
  have HQ1 := Lib.hid (HP3.out.below hb)
  have HT1 := Lib.hid (HT.out.below hb)
  have g0 := cell_later hb HI0.out
  have g1 := cell_later hb HI1.out
  have g2 := cell_later hb HI2.out
  clear htw hb hr1 hr2 hm1 hm2 HST HP2 HP3 HI0 HI1 HI2 HT
  have HCK := Lib.hid (fun W (h1 : Sl W a9 n (strs (ts.map (·.s)))) (h2 : PrAt W a2 N2 ps) => HRC.out a9 c9 W h1 h2 sk (Nat.le_trans HZK.out.1 (by omega)))
  have HCT := Lib.hid (fun W (h1 : Sl W a10 n (strs (ts.map (·.t)))) (h2 : PrAt W a3 N3 pt) => HRT.out a10 c10 W h1 h2 tk (Nat.le_trans HZK.out.2 (by omega)))
  generalize cs (keyB sk) = cks at *
  obtain ⟨ckt, hckt⟩ : ∃ ckt, ct (keyB tk) = ckt := ⟨_, rfl⟩
  rw [hckt] at HCT hc2 HV
  clear hckt
  cases f with
  | false =>
    have HW : Hid (wv = false) := HV.out
    go_wp2_with fail
    go_ret
    exact ⟨by rw [HW.out]; rfl, HB1.out⟩
  | true =>
    by_cases e1 : 0 < cks
    · have e1z : ¬ (cks : Int) = 0 := by omega
      have e1d : decide ((cks : Int) = 0) = false := decide_eq_false e1z
      have e1b : ((cks : Int) == 0) = false := by simpa using e1z
      by_cases e2 : 0 < ckt
      · have e2z : ¬ (ckt : Int) = 0 := by omega
        have e2d : decide ((ckt : Int) = 0) = false := decide_eq_false e2z
        have e2b : ((ckt : Int) == 0) = false := by simpa using e2z
        have HW : Hid (wv = !(ts.any (allowB cs (keyB tk)))) := by rw [Hid, HV.out]; simp [e1, e2]
        clear HV
        go_wp2_with fail
        refine (HCK.out _ HSL.out HP1.out).mono ?_
        rintro e w2 ⟨rfl, hb⟩
        have HB2 := Lib.hid (HB1.out.trans (hb.mono HB1.out.size))
        have HSL := Lib.hid (HSL.out.below hb)
        have HSR := Lib.hid (HSR.out.below hb)
        have HP1 := Lib.hid (HP1.out.below hb)
        have HQ1 := Lib.hid (HQ1.out.below hb)
        have HT1 := Lib.hid (HT1.out.below hb)
        have g1 := cell_later hb g1
        clear hb
        go_wp2_with fail
        refine (HCT.out _ HSR.out HQ1.out).mono ?_
        rintro e w3 ⟨rfl, hb⟩
        have HB3 := Lib.hid (HB2.out.trans (hb.mono HB2.out.size))
        have HSL := Lib.hid (HSL.out.below hb)
        have HP1 := Lib.hid (HP1.out.below hb)
        have HT1 := Lib.hid (HT1.out.below hb)
        have HI1 := Lib.hid (cell_later hb g1)
        clear hb
        go_wp2_with fail
        go_loopw [11] (fun u wr => ∃ (j : Nat), u = .int .i64 (j : Int) ∧ j ≤ n ∧ (∀ q, q < j → allowB cs (keyB tk) (ts.getD q tm0) = false) ∧ Below w3.heap.size w3 wr) (fun u _ => n - (intOf u).toNat)
        case atStart => exact ⟨0, rfl, Nat.zero_le _, fun q hq => absurd hq (Nat.not_lt_zero _), Below.refl _ _⟩
        case round =>
          obtain ⟨j, rfl, hjn, hno, hbl⟩ := hrel
          have HNO := Lib.hid hno
          have HBJ := Lib.hid hbl
          clear hno hbl
          by_cases hjl : j < n
          · obtain ⟨_, sb, sq, hrj⟩ := HT1.out.below HBJ.out
            have hixj := fun W => hrj.ix 22 48 Try.underlying22 cellsRTm (by omega) hjl c W
            have j0 := hrj.cell j 0 hjl (by omega)
            have j1 := hrj.cell j 1 hjl (by omega)
            have j2 := hrj.cell j 2 hjl (by omega)
            rw [Nat.add_zero] at j0
            simp only [tmC] at j0 j1 j2
            have i1 := cell_later HBJ.out HI1.out
            have HSLJ := Lib.hid (HSL.out.below HBJ.out)
            have HPJ := Lib.hid (HP1.out.below HBJ.out)
            have hsb : sb < wr.heap.size := World.block_lt_of_cell? _ _ j0
            have htb2 : tb < wr.heap.size := World.block_lt_of_cell? _ _ i1
            have hjm := getD_mem ts j tm0 (by rw [HL.out]; exact hjl)
            obtain ⟨z1, z2⟩ := HZ.out (ts.getD j tm0) hjm
            have hjz : (j : Int) < (n : Int) := by omega
            have hcj := hcb (keyB (ts.getD j tm0).s)
            have HNX : Hid (allowB cs (keyB tk) (ts.getD j tm0) = false → ∀ q, q < j + 1 → allowB cs (keyB tk) (ts.getD q tm0) = false) := fun h q hq => by
              by_cases e : q = j
              · rw [e]; exact h
              · exact HNO.out q (by omega)
            have HYS : Hid (allowB cs (keyB tk) (ts.getD j tm0) = true → ts.any (allowB cs (keyB tk)) = true) := fun h => List.any_eq_true.2 ⟨_, hjm, h⟩
            have HA1 : Hid (∀ W, Calls Try.prog 23 #[.string (ts.getD j tm0).t, .string tk] W fun e w' => e = .returned (.bool (decide (keyB (ts.getD j tm0).t = keyB tk))) ∧ Below W.heap.size W w') := fun W => by
              rw [← alike_key]
              exact HA.out _ _ W (by omega) (Nat.le_trans HZK.out.2 (by omega))
            have HC1 := Lib.hid (fun W (h1 : Sl W a9 n (strs (ts.map (·.s)))) (h2 : PrAt W a2 N2 ps) => HRC.out a9 c9 W h1 h2 (ts.getD j tm0).s (by omega))
            rw [show allowB cs (keyB tk) (ts.getD j tm0) = (!(ts.getD j tm0).f && decide (keyB (ts.getD j tm0).t = keyB tk) && decide (0 < cs (keyB (ts.getD j tm0).s))) from rfl] at HNX HYS
            clear hrj z1 z2 hjm HNO
            generalize cs (keyB (ts.getD j tm0).s) = cj at *
            generalize decide (keyB (ts.getD j tm0).t = keyB tk) = b1 at *
            generalize ts.getD j tm0 = y at *
            obtain ⟨ys, yt, f⟩ := y
            simp only at j0 j1 j2 HNX HYS HA1 HC1
            cases f with
            | true =>
              have HN2 := Lib.hid (HNX.out rfl)
              clear HNX HYS
              go_wp2_with fail
              refine wp_region_ext (by kernel_rfl) (by kernel_rfl) ?_
              repeat (go_big_quiet_step (fail))
              refine wpQuiet_nil ?_
              intro _ hw'
              obtain ⟨X9, hw''⟩ := hw'
              subst hw''
              go_wp2_with fail
              go_roundw
              case rel => exact ⟨j + 1, by go_num, by omega, HN2.out, HBJ.out.trans (X9.2.mono HBJ.out.size)⟩
              case measure => simp [intOf]; omega
            | false =>
              cases b1 with
              | false =>
                have HN2 := Lib.hid (HNX.out rfl)
                clear HNX HYS
                go_wp2_with fail
                refine wp_region_ext (by kernel_rfl) (by kernel_rfl) ?_
                repeat (go_big_quiet_step ((first | (go_at_call 23; exact Calls.ext (HA1.out _)) | (go_at_call 41; exact Calls.ext (HC1.out _ (HSLJ.out.ext _) (HPJ.out.below (Subtype.property _)))))))
                refine wpQuiet_nil ?_
                intro _ hw'
                obtain ⟨X9, hw''⟩ := hw'
                subst hw''
                go_wp2_with fail
                go_roundw
                case rel => exact ⟨j + 1, by go_num, by omega, HN2.out, HBJ.out.trans (X9.2.mono HBJ.out.size)⟩
                case measure => simp [intOf]; omega
              | true =>
                by_cases e3 : 0 < cj
                · have e3z : (0 : Int) < (cj : Int) := by omega
                  have e3d : decide ((0 : Int) < (cj : Int)) = true := decide_eq_true e3z
                  have HYT := HYS.out (by simp [e3])
                  have HW2 : Hid (wv = false) := by rw [Hid, HW.out, HYT]; rfl
                  clear HNX HYS HYT
                  go_wp2_with fail
                  refine wp_region_ext (by kernel_rfl) (by kernel_rfl) ?_
                  repeat (go_big_quiet_step ((first | (go_at_call 23; exact Calls.ext (HA1.out _)) | (go_at_call 41; exact Calls.ext (HC1.out _ (HSLJ.out.ext _) (HPJ.out.below (Subtype.property _)))))))
                  refine wpQuiet_nil ?_
                  intro _ hw'
                  obtain ⟨X9, hw''⟩ := hw'
                  subst hw''
                  go_wp2_with fail
                  go_ret
                  exact ⟨by rw [HW2.out]; rfl, HB3.out.trans ((HBJ.out.trans (X9.2.mono HBJ.out.size)).mono HB3.out.size)⟩
                · obtain rfl : cj = 0 := by omega
                  have HN2 := Lib.hid (HNX.out rfl)
                  clear HNX HYS
                  go_wp2_with fail
                  refine wp_region_ext (by kernel_rfl) (by kernel_rfl) ?_
                  repeat (go_big_quiet_step ((first | (go_at_call 23; exact Calls.ext (HA1.out _)) | (go_at_call 41; exact Calls.ext (HC1.out _ (HSLJ.out.ext _) (HPJ.out.below (Subtype.property _)))))))
                  refine wpQuiet_nil ?_
                  intro _ hw'
                  obtain ⟨X9, hw''⟩ := hw'
                  subst hw''
                  go_wp2_with fail
                  go_roundw
                  case rel => exact ⟨j + 1, by go_num, by omega, HN2.out, HBJ.out.trans (X9.2.mono HBJ.out.size)⟩
                  case measure => simp [intOf]; omega
          · obtain rfl : j = n := by omega
            have HW2 : Hid (wv = true) := by
              have : ts.any (allowB cs (keyB tk)) = false := by
                rw [List.any_eq_false]
                intro x hx
                obtain ⟨q, hq, rfl⟩ := List.getElem_of_mem hx
                have := HNO.out q (by rw [← HL.out]; exact hq)
                rw [List.getD_eq_getElem?_getD, List.getElem?_eq_getElem hq] at this
                simpa using this
              rw [Hid, HW.out, this]
              rfl
            go_wp2_with fail
            go_ret
            exact ⟨by rw [HW2.out]; rfl, HB3.out.trans (HBJ.out.mono HB3.out.size)⟩
      · obtain rfl : ckt = 0 := by omega
        have HW : Hid (wv = false) := by rw [Hid, HV.out]; simp
        clear HV
        go_wp2_with fail
        refine (HCK.out _ HSL.out HP1.out).mono ?_
        rintro e w2 ⟨rfl, hb⟩
        have HB2 := Lib.hid (HB1.out.trans (hb.mono HB1.out.size))
        have HSR := Lib.hid (HSR.out.below hb)
        have HQ1 := Lib.hid (HQ1.out.below hb)
        have g1 := cell_later hb g1
        clear hb
        go_wp2_with fail
        refine (HCT.out _ HSR.out HQ1.out).mono ?_
        rintro e w3 ⟨rfl, hb⟩
        have HB3 := Lib.hid (HB2.out.trans (hb.mono HB2.out.size))
        clear hb
        go_wp2_with fail
        go_ret
        exact ⟨by rw [HW.out]; rfl, HB3.out⟩
    · obtain rfl : cks = 0 := by omega
      have HW : Hid (wv = false) := by rw [Hid, HV.out]; simp
      clear HV
      go_wp2_with fail
      refine (HCK.out _ HSL.out HP1.out).mono ?_
      rintro e w2 ⟨rfl, hb⟩
      have HB2 := Lib.hid (HB1.out.trans (hb.mono HB1.out.size))
      clear hb
      go_wp2_with fail
      go_ret
      exact ⟨by rw [HW.out]; rfl, HB2.out⟩
end Go.Proofs.Ytkodnagneblgaaa
namespace Go.Proofs.Ytkodnagneblgaaa
open Go.RowKit Go.Maps Go.Sort
attribute [local go_sem] Ext.cell Ext.frozen
attribute [local go_sem ↓] Go.wp_at_zero Go.wp_at_succ
/-- the places in the source, in the target -/
def plS (ts : List Tm) (s : ByteArray) : List (Nat × Nat) := findL ((ts.map (·.s)).map wordsB) (wordsB s)
def plT (ts : List Tm) (s : ByteArray) : List (Nat × Nat) := findL ((ts.map (·.t)).map wordsB) (wordsB s)
noncomputable def rcC (n : Nat) : Code := fromReg n ((Try.f12.body).getD .skip)
set_option maxRecDepth 100000 in
set_option maxHeartbeats 8000000 in
theorem rc_first (ts : List Tm) (source target : ByteArray) (ad : Option Addr) (n c : Nat) (w : World) (RR : Ending → World → Prop) (ht : TmAt w ad n ts) (hn : n ≤ 40) (hz : ∀ x ∈ ts, x.s.size ≤ 100000 ∧ x.t.size ≤ 100000)
    (hbad : ∀ w', validT ts = false → Below w.heap.size w w' → RR (.returned (.tuple #[.slice none 0 0, .int .i64 1])) w')
    (hlong : ∀ w', validT ts = true → (20000 < source.size ∨ 20000 < target.size) → Below w.heap.size w w' → RR (.returned (.tuple #[.slice none 0 0, .int .i64 6])) w')
    (hnext : ∀ (wr : World) (v1 v2 : Value) (a2 a3 : Option Addr) (N2 c2 N3 c3 : Nat) (u3 u4 u5 u6 u7 u12 u13 u14 u15 u16 u17 u18 u19 u20 u21 u22 u23 u24 u25 u26 u27 u28 u29 u30 u31 u32 u33 u34 u35 u36 u37 u38 u39 u40 u41 u42 u43 u44 u45 u46 u47 u48 u49 u50 u51 u52 u53 u54 u55 u56 u57 u58 u59 u60 u61 u62 u63 u64 u65 u66 u67 u68 u69 u70 u71 u72 u73 u74 u75 u76 u77 u78 u79 u80 u81 u82 u83 u84 u85 u86 u87 : Value), validT ts = true → source.size ≤ 20000 → target.size ≤ 20000 → PrAt wr a2 N2 (plS ts source) → PrAt wr a3 N3 (plT ts target) → Below w.heap.size w wr →
      (rcC 7).wp Try.prog (bodyPost Try.prog Try.f12 RR) ⟨#[.slice ad n c, .string source, .string target, u3, u4, u5, u6, u7, v1, v2, .slice a2 N2 c2, .slice a3 N3 c3, u12, u13, u14, u15, u16, u17, u18, u19, u20, u21, u22, u23, u24, u25, u26, u27, u28, u29, u30, u31, u32, u33, u34, u35, u36, u37, u38, u39, u40, u41, u42, u43, u44, u45, u46, u47, u48, u49, u50, u51, u52, u53, u54, u55, u56, u57, u58, u59, u60, u61, u62, u63, u64, u65, u66, u67, u68, u69, u70, u71, u72, u73, u74, u75, u76, u77, u78, u79, u80, u81, u82, u83, u84, u85, u86, u87], []⟩ wr) :
    Calls Try.prog 12 #[.slice ad n c, .string source, .string target] w RR := by
  have HT := Lib.hid ht
  have HL := Lib.hid ht.1
  have HN := Lib.hid hnext
  have HBAD := Lib.hid hbad
  have HLONG := Lib.hid hlong
  have HV := Lib.hid (rvalid_any ts ad n c w ht (by omega) hz)
  have HST := Lib.hid (fun W (h : TmAt W ad n ts) => rstrings_any ts ad n c W h (by omega))
  have HF1 := Lib.hid (fun (hs : source.size ≤ 20000) a1 c1 W (h : Sl W a1 n (strs (ts.map (·.s)))) => rfind_any (ts.map (·.s)) a1 n c1 source W h hn (fun s h => by obtain ⟨x, hx, rfl⟩ := List.mem_map.1 h; have := (hz x hx).1; omega) (by omega))
  have HF2 := Lib.hid (fun (hs : target.size ≤ 20000) a1 c1 W (h : Sl W a1 n (strs (ts.map (·.t)))) => rfind_any (ts.map (·.t)) a1 n c1 target W h hn (fun s h => by obtain ⟨x, hx, rfl⟩ := List.mem_map.1 h; have := (hz x hx).2; omega) (by omega))
  clear ht hz hnext hbad hlong
  change Hid ((hs : source.size ≤ 20000) → ∀ a1 c1 W (h : Sl W a1 n (strs (ts.map (·.s)))), Calls _ _ _ _ fun e w' => ∃ ad' c', e = .returned (.slice ad' (plS ts source).length c') ∧ PrR w' _ (.slice ad' (plS ts source).length c') (plS ts source) ∧ _) at HF1
  change Hid ((hs : target.size ≤ 20000) → ∀ a1 c1 W (h : Sl W a1 n (strs (ts.map (·.t)))), Calls _ _ _ _ fun e w' => ∃ ad' c', e = .returned (.slice ad' (plT ts target).length c') ∧ PrR w' _ (.slice ad' (plT ts target).length c') (plT ts target) ∧ _) at HF2
  generalize plS ts source = ps at *
  generalize plT ts target = pt at *
  generalize hvt : validT ts = vt at *
  clear hvt
  go_enter Try.func12, Try.ntmps12
  go_wp2_with fail
  refine HV.out.mono ?_
  rintro e w1 ⟨rfl, hb⟩
  have HB1 := Lib.hid hb
  clear hb HV
  cases vt with
  | false =>
    go_wp2_with fail
    exact HBAD.out _ (by trivial) HB1.out
  | true =>
    by_cases h1 : 20000 < source.size
    · have h1z : (20000 : Int) < (source.size : Int) := by omega
      have h1d : decide ((20000 : Int) < (source.size : Int)) = true := decide_eq_true h1z
      go_wp2_with fail
      exact HLONG.out _ (by trivial) (.inl h1) HB1.out
    · have h1z : ¬ (20000 : Int) < (source.size : Int) := by omega
      have h1d : decide ((20000 : Int) < (source.size : Int)) = false := decide_eq_false h1z
      by_cases h2 : 20000 < target.size
      · have h2z : (20000 : Int) < (target.size : Int) := by omega
        have h2d : decide ((20000 : Int) < (target.size : Int)) = true := decide_eq_true h2z
        go_wp2_with fail
        exact HLONG.out _ (by trivial) (.inr h2) HB1.out
      · have h2z : ¬ (20000 : Int) < (target.size : Int) := by omega
        have h2d : decide ((20000 : Int) < (target.size : Int)) = false := decide_eq_false h2z
        have HN2 := Lib.hid (fun (wr : World) (v1 v2 : Value) (a2 a3 : Option Addr) (N2 c2 N3 c3 : Nat) (u3 u4 u5 u6 u7 u12 u13 u14 u15 u16 u17 u18 u19 u20 u21 u22 u23 u24 u25 u26 u27 u28 u29 u30 u31 u32 u33 u34 u35 u36 u37 u38 u39 u40 u41 u42 u43 u44 u45 u46 u47 u48 u49 u50 u51 u52 u53 u54 u55 u56 u57 u58 u59 u60 u61 u62 u63 u64 u65 u66 u67 u68 u69 u70 u71 u72 u73 u74 u75 u76 u77 u78 u79 u80 u81 u82 u83 u84 u85 u86 u87 : Value) => HN.out wr v1 v2 a2 a3 N2 c2 N3 c3 u3 u4 u5 u6 u7 u12 u13 u14 u15 u16 u17 u18 u19 u20 u21 u22 u23 u24 u25 u26 u27 u28 u29 u30 u31 u32 u33 u34 u35 u36 u37 u38 u39 u40 u41 u42 u43 u44 u45 u46 u47 u48 u49 u50 u51 u52 u53 u54 u55 u56 u57 u58 u59 u60 u61 u62 u63 u64 u65 u66 u67 u68 u69 u70 u71 u72 u73 u74 u75 u76 u77 u78 u79 u80 u81 u82 u83 u84 u85 u86 u87 rfl (by omega) (by omega))
        have HG1 := Lib.hid (HF1.out (by omega))
        have HG2 := Lib.hid (HF2.out (by omega))
        clear HN HBAD HLONG HF1 HF2
        go_wp2_with fail
        refine (HST.out _ (HT.out.below HB1.out)).mono ?_
        rintro e w2 ⟨v1, v2, rfl, htw, hb⟩
        have HB2 := Lib.hid (HB1.out.trans (hb.mono HB1.out.size))
        obtain ⟨a9, c9, rfl⟩ := htw.r1.form
        obtain ⟨a10, c10, rfl⟩ := htw.r2.form
        have hm1 : (ts.map (·.s)).length = n := by rw [List.length_map]; exact HL.out
        have hm2 : (ts.map (·.t)).length = n := by rw [List.length_map]; exact HL.out
        have hr1 := htw.r1
        have hr2 := htw.r2
        unfold StrR at hr1 hr2
        rw [hm1] at hr1 ⊢
        rw [hm2] at hr2 ⊢
        have HSL := Lib.hid (Own.sl hr1)
        have HSR := Lib.hid (Own.sl hr2)
        clear htw hb hr1 hr2 hm1 hm2 HST HB1
        go_upto_region 6 with (fail)
        rename_i K9 hK9
        have HK9 := Lib.hid hK9
        clear hK9
        go_wp2_with fail
        refine (HG1.out a9 c9 _ HSL.out).mono ?_
        rintro e w3 ⟨a2, c2, rfl, hp, hb⟩
        have HB3 := Lib.hid (HB2.out.trans (hb.mono HB2.out.size))
        have HSR := Lib.hid (HSR.out.below hb)
        have HP3 := Lib.hid (PrR.at hp)
        clear hp hb HB2 HSL
        go_wp2_with fail
        refine (HG2.out a10 c10 _ HSR.out).mono ?_
        rintro e w4 ⟨a3, c3, rfl, hp, hb⟩
        have HB4 := Lib.hid (HB3.out.trans (hb.mono HB3.out.size))
        have HP4 := Lib.hid (HP3.out.below hb)
        have HQ4 := Lib.hid (PrR.at hp)
        clear hp hb HB3 HP3 HSR
        go_wp2_with fail
        refine HK9.out _ _ ?_
        exact HN2.out w4 _ _ a2 a3 _ c2 _ c3 _ _ _ _ _ _ _ _ _ _ _ _ _ _ _ _ _ _ _ _ _ _ _ _ _ _ _ _ _ _ _ _ _ _ _ _ _ _ _ _ _ _ _ _ _ _ _ _ _ _ _ _ _ _ _ _ _ _ _ _ _ _ _ _ _ _ _ _ _ _ _ _ _ _ _ _ _ _ _ _ _ HP4.out HQ4.out HB4.out
end Go.Proofs.Ytkodnagneblgaaa
namespace Go.Proofs.Ytkodnagneblgaaa
open Go.RowKit Go.Maps Go.Sort
attribute [local go_sem] Ext.cell Ext.frozen
attribute [local go_sem ↓] Go.wp_at_zero Go.wp_at_succ
/-- none of the first terms has this source -/
def frB (ts : List Tm) (sk : ByteArray) (j : Nat) : Bool := (List.range j).all fun q => !alikeB (ts.getD q tm0).s sk
theorem frB_succ (ts : List Tm) (sk : ByteArray) (j : Nat) : frB ts sk (j + 1) = (frB ts sk j && !alikeB (ts.getD j tm0).s sk) := by
  unfold frB
  rw [List.range_succ, List.all_append]
  simp
/-- the reference's test -/
def rmB (ts : List Tm) (ps pt : List (Nat × Nat)) (k : Nat) : Bool := frB ts (ts.getD k tm0).s k && rmissV ts ps pt k
set_option maxRecDepth 100000 in
set_option maxHeartbeats 8000000 in
theorem rc_second (ts : List Tm) (ps pt : List (Nat × Nat)) (source target : ByteArray) (ad : Option Addr) (n c : Nat) (w0 w : World) (v1 v2 : Value) (a2 a3 : Option Addr) (N2 c2 N3 c3 : Nat) (u3 u4 u5 u6 u7 u12 u13 u14 u15 u16 u17 u18 u19 u20 u21 u22 u23 u24 u25 u26 u27 u28 u29 u30 u31 u32 u33 u34 u35 u36 u37 u38 u39 u40 u41 u42 u43 u44 u45 u46 u47 u48 u49 u50 u51 u52 u53 u54 u55 u56 u57 u58 u59 u60 u61 u62 u63 u64 u65 u66 u67 u68 u69 u70 u71 u72 u73 u74 u75 u76 u77 u78 u79 u80 u81 u82 u83 u84 u85 u86 u87 : Value) (RR : Ending → World → Prop) (ht : TmAt w ad n ts) (hn : n ≤ 40) (hz : ∀ x ∈ ts, x.s.size ≤ 100000 ∧ x.t.size ≤ 100000)
    (hps : PrAt w a2 N2 ps) (hN2 : N2 ≤ 1000001) (hm2 : ∀ p ∈ ps, p.1 < n) (hpt : PrAt w a3 N3 pt) (hN3 : N3 ≤ 1000001) (hm3 : ∀ p ∈ pt, p.1 < n) (hb0 : Below w0.heap.size w0 w)
    (hend : ∀ ad' c' w', FnR 63 w' w0.heap.size (.slice ad' (chkF (rmB ts ps pt) (wrongV ts (cntV ((ts.map (·.s)).map keyB) ps) (cntV ((ts.map (·.t)).map keyB) pt)) n).length c') (chkF (rmB ts ps pt) (wrongV ts (cntV ((ts.map (·.s)).map keyB) ps) (cntV ((ts.map (·.t)).map keyB) pt)) n) → Below w0.heap.size w0 w' → RR (.returned (.tuple #[.slice ad' (chkF (rmB ts ps pt) (wrongV ts (cntV ((ts.map (·.s)).map keyB) ps) (cntV ((ts.map (·.t)).map keyB) pt)) n).length c', .int .i64 0])) w') :
    (rcC 7).wp Try.prog (bodyPost Try.prog Try.f12 RR) ⟨#[.slice ad n c, .string source, .string target, u3, u4, u5, u6, u7, v1, v2, .slice a2 N2 c2, .slice a3 N3 c3, u12, u13, u14, u15, u16, u17, u18, u19, u20, u21, u22, u23, u24, u25, u26, u27, u28, u29, u30, u31, u32, u33, u34, u35, u36, u37, u38, u39, u40, u41, u42, u43, u44, u45, u46, u47, u48, u49, u50, u51, u52, u53, u54, u55, u56, u57, u58, u59, u60, u61, u62, u63, u64, u65, u66, u67, u68, u69, u70, u71, u72, u73, u74, u75, u76, u77, u78, u79, u80, u81, u82, u83, u84, u85, u86, u87], []⟩ w := by
  have HL := Lib.hid ht.1
  have HT := Lib.hid ht
  have HZ := Lib.hid hz
  have HP := Lib.hid hps
  have HQ := Lib.hid hpt
  have HB0 := Lib.hid hb0
  have HEND := Lib.hid hend
  have HA := Lib.hid ralike_any
  have HM := Lib.hid (fun i W hi (h1 : TmAt W ad n ts) (h2 : PrAt W a2 N2 ps) (h3 : PrAt W a3 N3 pt) => rmissing_any ts ps pt ad n c i a2 N2 c2 a3 N3 c3 W h1 hi (by omega) hz h2 hN2 hm2 h3 hN3 hm3)
  have HW := Lib.hid (fun i W hi (h1 : TmAt W ad n ts) (h2 : PrAt W a2 N2 ps) (h3 : PrAt W a3 N3 pt) => rwrong_any ts ps pt ad n c i a2 N2 c2 a3 N3 c3 W h1 hi (by omega) hz h2 hN2 hm2 h3 hN3 hm3)
  have HMV : Hid (∀ i, rmB ts ps pt i = (frB ts (ts.getD i tm0).s i && rmissV ts ps pt i)) := fun i => rfl
  clear ht hz hps hpt hb0 hend hm2 hm3
  generalize wrongV ts (cntV ((ts.map (·.s)).map keyB) ps) (cntV ((ts.map (·.t)).map keyB) pt) = wv at *
  generalize rmB ts ps pt = mv at *
  unfold rcC
  dsimp only
  conv => arg 2; whnf
  go_wp2_with fail
  go_loopw [12, 13] (fun r u wr => ∃ (i : Nat) (ad' : Option Addr) (c' : Nat), u = .int .i64 (i : Int) ∧ r = .slice ad' (chkF mv wv i).length c' ∧ i ≤ n ∧ FnR 63 wr w.heap.size (.slice ad' (chkF mv wv i).length c') (chkF mv wv i) ∧ Below w.heap.size w wr) (fun _ u _ => n - (intOf u).toNat)
  case atStart => exact ⟨0, _, _, rfl, rfl, Nat.zero_le _, ⟨rfl, .inl ⟨rfl, rfl⟩⟩, Below.refl _ _⟩
  case round =>
    obtain ⟨i, ad', c', rfl, rfl, hin, hfn, hbl⟩ := hrel
    have HFN := Lib.hid hfn
    have HB := Lib.hid hbl
    clear hfn hbl
    have hcl := chkF_len mv wv i
    have HSU := Lib.hid (chkF_succ mv wv i)
    by_cases hlt : i < n
    · have hlz : (i : Int) < (n : Int) := by omega
      obtain ⟨_, tb, tq, hrk⟩ := HT.out.below HB.out
      have hixk := fun W => hrk.ix 22 48 Try.underlying22 cellsRTm (by omega) hlt c W
      have k0 := hrk.cell i 0 hlt (by omega)
      rw [Nat.add_zero] at k0
      simp only [tmC] at k0
      have HI0 := Lib.hid k0
      have HZK := Lib.hid (HZ.out (ts.getD i tm0) (getD_mem _ _ _ (by rw [HL.out]; exact hlt))).1
      have HMI := Lib.hid (HMV.out i)
      clear hrk k0
      generalize (ts.getD i tm0).s = sk at *
      generalize chkF mv wv i = fs at *
      obtain ⟨N, hN⟩ : ∃ N, fs.length = N := ⟨_, rfl⟩
      rw [hN] at HFN hcl ⊢
      have HNE := Lib.hid hN
      clear hN
      obtain ⟨wo, rfl⟩ : ∃ wo : World, wo = wr := ⟨_, rfl⟩
      go_wp2_with fail
      go_loopw [14, 15] (fun v u wr => ∃ (j : Nat) (gd : Bool), u = .int .i64 (j : Int) ∧ v = .bool gd ∧ j ≤ i ∧ frB ts sk j = gd ∧ Below wo.heap.size wo wr) (fun _ u _ => i - (intOf u).toNat)
      case atStart => exact ⟨0, true, rfl, rfl, Nat.zero_le _, rfl, Below.refl _ _⟩
      case round =>
        obtain ⟨j, gd, rfl, rfl, hji, hgd, hbl⟩ := hrel
        have HG := Lib.hid hgd
        have HBJ := Lib.hid hbl
        have HBB := Lib.hid (HB.out.trans (hbl.mono HB.out.size))
        clear hgd hbl
        by_cases hjl : j < i
        · have hjn : j < n := by omega
          obtain ⟨_, sb, sq, hrj⟩ := HT.out.below HBB.out
          have hixj := fun W => hrj.ix 22 48 Try.underlying22 cellsRTm (by omega) hjn c W
          have j0 := hrj.cell j 0 hjn (by omega)
          rw [Nat.add_zero] at j0
          simp only [tmC] at j0
          have i0 := cell_later HBJ.out HI0.out
          have hsb : sb < wr.heap.size := World.block_lt_of_cell? _ _ j0
          have htb : tb < wr.heap.size := World.block_lt_of_cell? _ _ i0
          have HAT := Lib.hid (frB_succ ts sk j)
          rw [HG.out] at HAT
          have z1 := (HZ.out (ts.getD j tm0) (getD_mem _ _ _ (by rw [HL.out]; exact hjn))).1
          have hjz : (j : Int) < (i : Int) := by omega
          have HA1 : Hid (∀ W, Calls Try.prog 23 #[.string (ts.getD j tm0).s, .string sk] W fun e w' => e = .returned (.bool (alikeB (ts.getD j tm0).s sk)) ∧ Below W.heap.size W w') := fun W => HA.out _ _ W (by omega) (Nat.le_trans HZK.out (by omega))
          clear hrj z1
          generalize alikeB (ts.getD j tm0).s sk = b1 at *
          generalize (ts.getD j tm0).s = ys at *
          cases gd with
          | false =>
            have HG2 : Hid (frB ts sk (j + 1) = false) := by rw [Hid, HAT.out]; rfl
            clear HAT
            go_wp2_with fail
            refine wp_region_ext (by kernel_rfl) (by kernel_rfl) ?_
            repeat (go_big_quiet_step (fail))
            refine wpQuiet_nil ?_
            intro _ hw'
            obtain ⟨X9, hw''⟩ := hw'
            subst hw''
            go_wp2_with fail
            go_roundw
            case rel => exact ⟨j + 1, false, by go_num, rfl, by omega, HG2.out, HBJ.out.trans (X9.2.mono HBJ.out.size)⟩
            case measure => simp [intOf]; omega
          | true =>
            cases b1 with
            | false =>
              have HG2 : Hid (frB ts sk (j + 1) = true) := by rw [Hid, HAT.out]; rfl
              clear HAT
              go_wp2_with fail
              refine wp_region_ext (by kernel_rfl) (by kernel_rfl) ?_
              repeat (go_big_quiet_step ((first | (go_at_call 23; exact Calls.ext (HA1.out _)))))
              refine wpQuiet_nil ?_
              intro _ hw'
              obtain ⟨X9, hw''⟩ := hw'
              subst hw''
              go_wp2_with fail
              go_roundw
              case rel => exact ⟨j + 1, true, by go_num, rfl, by omega, HG2.out, HBJ.out.trans (X9.2.mono HBJ.out.size)⟩
              case measure => simp [intOf]; omega
            | true =>
              have HG2 : Hid (frB ts sk (j + 1) = false) := by rw [Hid, HAT.out]; rfl
              clear HAT
              go_wp2_with fail
              refine wp_region_ext (by kernel_rfl) (by kernel_rfl) ?_
              repeat (go_big_quiet_step ((first | (go_at_call 23; exact Calls.ext (HA1.out _)))))
              refine wpQuiet_nil ?_
              intro _ hw'
              obtain ⟨X9, hw''⟩ := hw'
              subst hw''
              go_wp2_with fail
              go_roundw
              case rel => exact ⟨j + 1, false, by go_num, rfl, by omega, HG2.out, HBJ.out.trans (X9.2.mono HBJ.out.size)⟩
              case measure => simp [intOf]; omega
        · obtain rfl : j = i := by omega
          rw [HG.out] at HMI
          have HFN := Lib.hid (HFN.out.below HBJ.out)
          have hz5 := HBB.out.size
          clear HG
          cases gd with
          | false =>
            have HMB : Hid (mv j = false) := HMI.out
            clear HMI
            go_wp2_with fail
            refine (HW.out j _ hlt (HT.out.below HBB.out) (HP.out.below HBB.out) (HQ.out.below HBB.out)).mono ?_
            rintro e w8 ⟨rfl, hb⟩
            have HB8 := Lib.hid (HBB.out.trans (hb.mono HBB.out.size))
            have HFN8 := Lib.hid (HFN.out.below hb)
            clear hb
            generalize wv j = bw at *
            cases bw with
            | false =>
              have HSE : Hid (chkF mv wv (j + 1) = fs) := by unfold Hid; rw [HSU.out, HMB.out]; simp [oneF]
              have HLE : Hid ((fs).length = N) := by unfold Hid; simp [HNE.out]
              go_wp2_with fail
              go_roundw
              case rel => exact ⟨j + 1, _, _, by go_num, by rw [HSE.out, HLE.out], by omega, by rw [HSE.out, HLE.out]; exact HFN8.out, HB8.out⟩
              case measure => simp [intOf]; omega
            | true =>
              have HLE : Hid ((fs).length = N) := by unfold Hid; simp [HNE.out]
              have HSE : Hid (chkF mv wv (j + 1) = (fs) ++ [(2, j)]) := by unfold Hid; rw [HSU.out, HMB.out]; simp [oneF]
              have HLE2 : Hid (((fs) ++ [(2, j)]).length = N + 1) := by rw [Hid, List.length_append, HLE.out]; rfl
              go_wp2_with (at_builtin; refine appFindR rfl _ _ rfl w.heap.size _ _ _ (fs) HLE.out rfl HFN8.out 2 j _ rfl (by omega) HB8.out.size ?_; intro ad9 c9 w9 hf9 hb9; have HFN9 := Lib.hid hf9; have HB9 : Hid (Below w.heap.size w w9) := HB8.out.trans hb9; clear hf9 hb9)
              go_roundw
              case rel => exact ⟨j + 1, _, _, by go_num, by rw [HSE.out, HLE2.out], by omega, by rw [HSE.out, HLE2.out]; exact HFN9.out, HB9.out⟩
              case measure => simp [intOf]; omega
          | true =>
            go_wp2_with fail
            refine (HM.out j _ hlt (HT.out.below HBB.out) (HP.out.below HBB.out) (HQ.out.below HBB.out)).mono ?_
            rintro e w5 ⟨rfl, hb⟩
            have HB5 := Lib.hid (HBB.out.trans (hb.mono HBB.out.size))
            have HFN5 := Lib.hid (HFN.out.below hb)
            clear hb
            generalize rmissV ts ps pt j = bm at *
            cases bm with
            | false =>
              have HMB : Hid (mv j = false) := HMI.out
              clear HMI
              go_wp2_with fail
              refine (HW.out j _ hlt (HT.out.below HB5.out) (HP.out.below HB5.out) (HQ.out.below HB5.out)).mono ?_
              rintro e w8 ⟨rfl, hb⟩
              have HB8 := Lib.hid (HB5.out.trans (hb.mono HB5.out.size))
              have HFN8 := Lib.hid (HFN5.out.below hb)
              clear hb
              generalize wv j = bw at *
              cases bw with
              | false =>
                have HSE : Hid (chkF mv wv (j + 1) = fs) := by unfold Hid; rw [HSU.out, HMB.out]; simp [oneF]
                have HLE : Hid ((fs).length = N) := by unfold Hid; simp [HNE.out]
                go_wp2_with fail
                go_roundw
                case rel => exact ⟨j + 1, _, _, by go_num, by rw [HSE.out, HLE.out], by omega, by rw [HSE.out, HLE.out]; exact HFN8.out, HB8.out⟩
                case measure => simp [intOf]; omega
              | true =>
                have HLE : Hid ((fs).length = N) := by unfold Hid; simp [HNE.out]
                have HSE : Hid (chkF mv wv (j + 1) = (fs) ++ [(2, j)]) := by unfold Hid; rw [HSU.out, HMB.out]; simp [oneF]
                have HLE2 : Hid (((fs) ++ [(2, j)]).length = N + 1) := by rw [Hid, List.length_append, HLE.out]; rfl
                go_wp2_with (at_builtin; refine appFindR rfl _ _ rfl w.heap.size _ _ _ (fs) HLE.out rfl HFN8.out 2 j _ rfl (by omega) HB8.out.size ?_; intro ad9 c9 w9 hf9 hb9; have HFN9 := Lib.hid hf9; have HB9 : Hid (Below w.heap.size w w9) := HB8.out.trans hb9; clear hf9 hb9)
                go_roundw
                case rel => exact ⟨j + 1, _, _, by go_num, by rw [HSE.out, HLE2.out], by omega, by rw [HSE.out, HLE2.out]; exact HFN9.out, HB9.out⟩
                case measure => simp [intOf]; omega
            | true =>
              have HMB : Hid (mv j = true) := HMI.out
              clear HMI
              go_upto_region 18 with (at_builtin; refine appFindR rfl _ _ rfl w.heap.size _ _ _ (fs) HNE.out rfl HFN5.out 1 j _ rfl (by omega) HB5.out.size ?_; intro ad7 c7 w7 hf7 hb7; have HFN7 := Lib.hid hf7; have HB7 : Hid (Below w.heap.size w w7) := HB5.out.trans hb7; clear hf7 hb7)
              go_wp2_with fail
              refine (HW.out j _ hlt (HT.out.below HB7.out) (HP.out.below HB7.out) (HQ.out.below HB7.out)).mono ?_
              rintro e w8 ⟨rfl, hb⟩
              have HB8 := Lib.hid (HB7.out.trans (hb.mono HB7.out.size))
              have HFN8 := Lib.hid (HFN7.out.below hb)
              clear hb
              generalize wv j = bw at *
              cases bw with
              | false =>
                have HSE : Hid (chkF mv wv (j + 1) = fs ++ [(1, j)]) := by unfold Hid; rw [HSU.out, HMB.out]; simp [oneF]
                have HLE : Hid ((fs ++ [(1, j)]).length = (N + 1)) := by unfold Hid; simp [HNE.out]
                go_wp2_with fail
                go_roundw
                case rel => exact ⟨j + 1, _, _, by go_num, by rw [HSE.out, HLE.out], by omega, by rw [HSE.out, HLE.out]; exact HFN8.out, HB8.out⟩
                case measure => simp [intOf]; omega
              | true =>
                have HLE : Hid ((fs ++ [(1, j)]).length = (N + 1)) := by unfold Hid; simp [HNE.out]
                have HSE : Hid (chkF mv wv (j + 1) = (fs ++ [(1, j)]) ++ [(2, j)]) := by unfold Hid; rw [HSU.out, HMB.out]; simp [oneF]
                have HLE2 : Hid (((fs ++ [(1, j)]) ++ [(2, j)]).length = (N + 1) + 1) := by rw [Hid, List.length_append, HLE.out]; rfl
                go_wp2_with (at_builtin; refine appFindR rfl _ _ rfl w.heap.size _ _ _ (fs ++ [(1, j)]) HLE.out rfl HFN8.out 2 j _ rfl (by omega) HB8.out.size ?_; intro ad9 c9 w9 hf9 hb9; have HFN9 := Lib.hid hf9; have HB9 : Hid (Below w.heap.size w w9) := HB8.out.trans hb9; clear hf9 hb9)
                go_roundw
                case rel => exact ⟨j + 1, _, _, by go_num, by rw [HSE.out, HLE2.out], by omega, by rw [HSE.out, HLE2.out]; exact HFN9.out, HB9.out⟩
                case measure => simp [intOf]; omega
    · obtain rfl : i = n := by omega
      go_wp2_with fail
      exact HEND.out _ _ _ (FnR.rebase HFN.out HB0.out.size) (HB0.out.trans (HB.out.mono HB0.out.size))
end Go.Proofs.Ytkodnagneblgaaa
namespace Go.Proofs.Ytkodnagneblgaaa
open Go.RowKit Go.Maps Go.Sort
theorem knownT_spec (ts : List Tm) (src : ByteArray) : ∀ i, i ≤ ts.length → (knownT ts src i).Nodup ∧ ∀ t, t ∈ knownT ts src i ↔ ∃ j, j < i ∧ keyB (ts.getD j tm0).s = src ∧ (ts.getD j tm0).f = false ∧ keyB (ts.getD j tm0).t = t
  | 0, _ => ⟨List.nodup_nil, fun t => ⟨fun h => (by cases h), fun ⟨j, hj, _⟩ => absurd hj (Nat.not_lt_zero _)⟩⟩
  | i + 1, h => by
    obtain ⟨h1, h2⟩ := knownT_spec ts src i (by omega)
    rw [knownT_succ ts src i (by omega)]
    unfold stepK
    by_cases hc : keyB (ts.getD i tm0).s = src ∧ (ts.getD i tm0).f = false ∧ memS (keyB (ts.getD i tm0).t) (knownT ts src i) = false
    · rw [if_pos hc]
      have hn : keyB (ts.getD i tm0).t ∉ knownT ts src i := fun e => by
        rw [memS_iff.2 e] at hc
        cases hc.2.2
      refine ⟨List.nodup_append.2 ⟨h1, by simp, fun a ha b hb => ?_⟩, fun t => ?_⟩
      · rw [List.mem_singleton.1 hb]
        intro e
        exact hn (e ▸ ha)
      · rw [List.mem_append, List.mem_singleton, h2]
        constructor
        · rintro (⟨j, hj, e⟩ | e)
          · exact ⟨j, by omega, e⟩
          · exact ⟨i, by omega, hc.1, hc.2.1, e.symm⟩
        · rintro ⟨j, hj, e⟩
          by_cases hji : j = i
          · subst hji
            exact .inr e.2.2.symm
          · exact .inl ⟨j, by omega, e⟩
    · rw [if_neg hc]
      refine ⟨h1, fun t => ?_⟩
      rw [h2]
      constructor
      · rintro ⟨j, hj, e⟩
        exact ⟨j, by omega, e⟩
      · rintro ⟨j, hj, e⟩
        by_cases hji : j = i
        · subst hji
          have hm : memS (keyB (ts.getD j tm0).t) (knownT ts src j) = true := by
            cases hq : memS (keyB (ts.getD j tm0).t) (knownT ts src j) with
            | true => rfl
            | false => exact absurd ⟨e.1, e.2.1, hq⟩ hc
          have := memS_iff.1 hm
          rw [e.2.2] at this
          exact (h2 t).1 this
        · exact ⟨j, by omega, e⟩
theorem filter_or {α : Type} (P Q : α → Bool) (h : ∀ x, ¬ (P x = true ∧ Q x = true)) : ∀ l : List α, (l.filter fun x => P x || Q x).length = (l.filter P).length + (l.filter Q).length
  | [] => rfl
  | x :: l => by
    have ih := filter_or P Q h l
    have hx := h x
    simp only [List.filter_cons]
    cases hp : P x <;> cases hq : Q x <;> rw [hp, hq] at hx <;> simp <;> first | omega | simp at hx
theorem sum_cnt (keys : List ByteArray) (ps : List (Nat × Nat)) : ∀ ks : List ByteArray, ks.Nodup → sumL (cntV keys ps) ks = (ps.filter fun p => memS (keys.getD p.1 .empty) ks).length
  | [], _ => by
    have : (ps.filter fun p => memS (keys.getD p.1 .empty) []) = [] := by
      rw [List.filter_eq_nil_iff]
      intro p _
      simp [memS]
    rw [this]
    rfl
  | k :: ks, h => by
    obtain ⟨h1, h2⟩ := List.nodup_cons.1 h
    have ih := sum_cnt keys ps ks h2
    have e : sumL (cntV keys ps) (k :: ks) = cntV keys ps k + sumL (cntV keys ps) ks := by simp [sumL]
    rw [e, ih]
    unfold cntV
    rw [← filter_or _ _ (fun p ⟨e1, e2⟩ => h1 (by
      have e1 := of_decide_eq_true e1
      have e2 := memS_iff.1 e2
      rw [e1] at e2
      exact e2))]
    congr 1
    apply List.filter_congr
    intro p _
    rw [Bool.eq_iff_iff, Bool.or_eq_true, decide_eq_true_eq, memS_iff, memS_iff, List.mem_cons]
theorem any_get (f : Tm → Bool) (ts : List Tm) : ts.any f = true ↔ ∃ j, j < ts.length ∧ f (ts.getD j tm0) = true := by
  rw [List.any_eq_true]
  constructor
  · rintro ⟨x, hx, h⟩
    obtain ⟨j, hj, rfl⟩ := List.getElem_of_mem hx
    exact ⟨j, hj, by rw [List.getD_eq_getElem?_getD, List.getElem?_eq_getElem hj]; exact h⟩
  · rintro ⟨j, hj, h⟩
    exact ⟨_, getD_mem ts j tm0 hj, h⟩
theorem good_sum (ts : List Tm) (s : ByteArray) (pt : List (Nat × Nat)) (hm : ∀ p ∈ pt, p.1 < ts.length) : sumL (cntV ((ts.map (·.t)).map keyB) pt) (knownT ts (keyB s) ts.length) = goodN ts s pt := by
  obtain ⟨h1, h2⟩ := knownT_spec ts (keyB s) ts.length (Nat.le_refl _)
  rw [sum_cnt _ _ _ h1]
  unfold goodN
  congr 1
  apply List.filter_congr
  intro p hp
  have hlt := hm p hp
  have hk : ((ts.map (·.t)).map keyB).getD p.1 .empty = keyB (ts.getD p.1 tm0).t := by
    rw [List.getD_eq_getElem?_getD, List.getElem?_map, List.getElem?_map, List.getD_eq_getElem?_getD, List.getElem?_eq_getElem hlt]
    rfl
  rw [hk, Bool.eq_iff_iff, memS_iff, h2, any_get]
  constructor
  · rintro ⟨j, hj, e1, e2, e3⟩
    exact ⟨j, hj, by unfold goodT; rw [e2, alike_key, alike_key, e1, e3]; simp⟩
  · rintro ⟨j, hj, e⟩
    unfold goodT at e
    rw [Bool.and_eq_true, Bool.and_eq_true, alike_key, alike_key, decide_eq_true_eq, decide_eq_true_eq] at e
    exact ⟨j, hj, e.2.1, by simpa using e.1, e.2.2⟩
theorem known_any (ts : List Tm) (s : ByteArray) : (!(knownT ts (keyB s) ts.length).isEmpty) = ts.any (allowT s) := by
  obtain ⟨_, h2⟩ := knownT_spec ts (keyB s) ts.length (Nat.le_refl _)
  rw [Bool.eq_iff_iff, any_get]
  constructor
  · intro h
    cases hq : knownT ts (keyB s) ts.length with
    | nil => rw [hq] at h; cases h
    | cons t r =>
      obtain ⟨j, hj, e1, e2, e3⟩ := (h2 t).1 (by rw [hq]; exact List.mem_cons_self)
      exact ⟨j, hj, by unfold allowT; rw [e2, alike_key, e1]; simp⟩
  · rintro ⟨j, hj, e⟩
    unfold allowT at e
    rw [Bool.and_eq_true, alike_key, decide_eq_true_eq] at e
    have := (h2 (keyB (ts.getD j tm0).t)).2 ⟨j, hj, e.2, by simpa using e.1, rfl⟩
    cases hq : knownT ts (keyB s) ts.length with
    | nil => rw [hq] at this; cases this
    | cons t r => rfl
theorem miss_same (ts : List Tm) (cs : ByteArray → Nat) (ps pt : List (Nat × Nat)) (hcs : cs = cntV ((ts.map (·.s)).map keyB) ps) (hm : ∀ p ∈ pt, p.1 < ts.length) (i : Nat) : missV ts cs (cntV ((ts.map (·.t)).map keyB) pt) i = rmB ts ps pt i := by
  unfold missV rmB rmissV frB
  rw [good_sum ts _ pt hm, known_any, ← hcs, Bool.and_assoc]
  congr 1
  congr 1
  funext q
  rw [alike_key]
  simp
theorem find_lt (ts : List Tm) (f : Tm → ByteArray) (s : ByteArray) : ∀ p ∈ findL ((ts.map f).map wordsB) (wordsB s), p.1 < ts.length := fun p hp => by
  have := (findV_mem _ _ p hp).1
  simpa using this
theorem find_small (lists : List (List ByteArray)) (s : ByteArray) (hs : s.size ≤ 1000000) : (findL lists (wordsB s)).length ≤ 1000001 := Nat.le_trans (findV_len _ _) (Nat.le_trans (wordsB_le s) (by omega))
theorem pf_same (ts : List Tm) (s t : ByteArray) : pfindings ts s t = chkF (rmB ts (plS ts s) (plT ts t)) (wrongV ts (cntV ((ts.map (·.s)).map keyB) (plS ts s)) (cntV ((ts.map (·.t)).map keyB) (plT ts t))) ts.length := by
  unfold pfindings
  rw [show missV ts (cntS ts s) (cntT ts t) = rmB ts (plS ts s) (plT ts t) from funext fun i => miss_same ts _ (plS ts s) (plT ts t) rfl (find_lt ts (·.t) t) i]
  rfl
theorem rcheck_any (ts : List Tm) (source target : ByteArray) (ad : Option Addr) (n c : Nat) (w : World) (ht : TmAt w ad n ts) (hn : n ≤ 40) (hz : ∀ x ∈ ts, x.s.size ≤ 100000 ∧ x.t.size ≤ 100000) :
    Calls Try.prog 12 #[.slice ad n c, .string source, .string target] w (ChkPost 63 (errV ts source target) (resV ts source target (pfindings ts source target)) w) := by
  refine rc_first ts source target ad n c w _ ht hn hz ?_ ?_ ?_
  · intro w' hv hb
    have e1 : errV ts source target = 1 := by unfold errV; rw [if_neg (by rw [hv]; decide)]
    have e2 : resV ts source target (pfindings ts source target) = [] := by unfold resV; rw [if_neg (by rw [hv]; decide)]
    rw [e1, e2]
    exact ⟨none, 0, rfl, ⟨rfl, .inl ⟨rfl, rfl⟩⟩, hb⟩
  · intro w' hv hl hb
    have e1 : errV ts source target = 6 := by unfold errV; rw [if_pos hv, if_pos hl]
    have e2 : resV ts source target (pfindings ts source target) = [] := by unfold resV; rw [if_pos hv, if_pos hl]
    rw [e1, e2]
    exact ⟨none, 0, rfl, ⟨rfl, .inl ⟨rfl, rfl⟩⟩, hb⟩
  · intro wr v1 v2 a2 a3 N2 c2 N3 c3
    intros
    rename_i hv h1 h2 hp hq hb
    have e1 : errV ts source target = 0 := by unfold errV; rw [if_pos hv, if_neg (by omega)]
    have e2 : resV ts source target (pfindings ts source target) = pfindings ts source target := by unfold resV; rw [if_pos hv, if_neg (by omega)]
    have hl := ht.1
    rw [e1, e2, pf_same, hl]
    exact rc_second ts (plS ts source) (plT ts target) source target ad n c w wr v1 v2 a2 a3 N2 c2 N3 c3 _ _ _ _ _ _ _ _ _ _ _ _ _ _ _ _ _ _ _ _ _ _ _ _ _ _ _ _ _ _ _ _ _ _ _ _ _ _ _ _ _ _ _ _ _ _ _ _ _ _ _ _ _ _ _ _ _ _ _ _ _ _ _ _ _ _ _ _ _ _ _ _ _ _ _ _ _ _ _ _ _ _ (ht.below hb) hn hz hp (by rw [← hp.1]; exact find_small _ _ (by omega)) (by rw [← hl]; exact find_lt ts (·.s) source) hq (by rw [← hq.1]; exact find_small _ _ (by omega)) (by rw [← hl]; exact find_lt ts (·.t) target) hb (fun ad' c' w' g1 g2 => ⟨ad', c', rfl, g1, g2⟩)
end Go.Proofs.Ytkodnagneblgaaa
namespace Go.Proofs.Ytkodnagneblgaaa
open Go.RowKit Go.Maps Go.Sort
attribute [local go_sem] Ext.cell Ext.frozen
attribute [local go_sem ↓] Go.wp_at_zero Go.wp_at_succ
set_option maxRecDepth 100000 in
set_option maxHeartbeats 8000000 in
theorem glossaryCheck_walk (ad : Option Addr) (n c : Nat) (ts : List Tm) (source target : ByteArray) (w : World) (ht : TmAt w ad n ts) (hn : n ≤ 9223372036854775807) (hs : source.size ≤ 9223372036854775807) (htg : target.size ≤ 9223372036854775807) :
    Calls Try.prog 3 #[.slice ad n c, .string source, .string target] w fun e w' => e = .returned (.bool true) ∧ Below w.heap.size w w' := by
  have HT := Lib.hid ht
  have HL := Lib.hid ht.1
  have HAW := Lib.hid awake_any
  have HF := Lib.hid (fun W (h : TmAt W ad n ts) => few_any ts ad n c W h hn)
  have HFI := Lib.hid (@fewT_iff ts)
  clear ht
  generalize fewT ts = fw at *
  go_enter Try.func3, Try.ntmps3
  go_wp2_with fail
  refine (HAW.out _).mono ?_
  rintro e w1 ⟨rfl, hb⟩
  have HB1 := Lib.hid hb
  clear hb
  go_wp2_with fail
  refine (HF.out _ (HT.out.below HB1.out)).mono ?_
  rintro e _ ⟨rfl, rfl⟩
  cases fw with
  | false =>
    go_wp2_with fail
    refine (HAW.out _).mono ?_
    rintro e w9 ⟨rfl, hb⟩
    have HB9 := Lib.hid (HB1.out.trans (hb.mono HB1.out.size))
    clear hb
    go_wp2_with fail
    go_ret
    exact ⟨rfl, HB9.out⟩
  | true =>
    obtain ⟨hf1, hf2⟩ := HFI.out rfl
    have hn30 : n ≤ 30 := by have := HL.out; omega
    have HF2 := Lib.hid hf2
    clear hf2 HFI
    by_cases h1 : 600 < source.size
    · have h1z : (600 : Int) < (source.size : Int) := by omega
      have h1d : decide ((600 : Int) < (source.size : Int)) = true := decide_eq_true h1z
      go_wp2_with fail
      refine (HAW.out _).mono ?_
      rintro e w9 ⟨rfl, hb⟩
      have HB9 := Lib.hid (HB1.out.trans (hb.mono HB1.out.size))
      clear hb
      go_wp2_with fail
      go_ret
      exact ⟨rfl, HB9.out⟩
    · have h1z : ¬ (600 : Int) < (source.size : Int) := by omega
      have h1d : decide ((600 : Int) < (source.size : Int)) = false := decide_eq_false h1z
      by_cases h2 : 600 < target.size
      · have h2z : (600 : Int) < (target.size : Int) := by omega
        have h2d : decide ((600 : Int) < (target.size : Int)) = true := decide_eq_true h2z
        go_wp2_with fail
        refine (HAW.out _).mono ?_
        rintro e w9 ⟨rfl, hb⟩
        have HB9 := Lib.hid (HB1.out.trans (hb.mono HB1.out.size))
        clear hb
        go_wp2_with fail
        go_ret
        exact ⟨rfl, HB9.out⟩
      · have h2z : ¬ (600 : Int) < (target.size : Int) := by omega
        have h2d : decide ((600 : Int) < (target.size : Int)) = false := decide_eq_false h2z
        have HTO := Lib.hid (fun W (h : TmAt W ad n ts) => to_any ts ad n c W h (by omega))
        have HPC := Lib.hid (fun a1 c1 W (h : TmAt W a1 n ts) => pcheck_any ts source target a1 n c1 W h (by omega) (fun x hx => by have := HF2.out x hx; omega))
        have HRC := Lib.hid (fun W (h : TmAt W ad n ts) => rcheck_any ts source target ad n c W h (by omega) (fun x hx => by have := HF2.out x hx; omega))
        have HPV := Lib.hid (fun a1 c1 W (h : TmAt W a1 n ts) => pvalid_any ts a1 n c1 W h (by omega) (fun x hx => by have := HF2.out x hx; omega))
        have HRV := Lib.hid (fun W (h : TmAt W ad n ts) => rvalid_any ts ad n c W h (by omega) (fun x hx => by have := HF2.out x hx; omega))
        have HRM := Lib.hid (res_mem ts source target (by omega))
        have hrl := res_len ts source target (by omega)
        unfold ChkPost at HPC HRC
        generalize errV ts source target = er at *
        generalize resV ts source target (pfindings ts source target) = fs at *
        generalize validT ts = vd at *
        obtain ⟨F, hF⟩ : ∃ F, fs.length = F := ⟨_, rfl⟩
        rw [hF] at HPC HRC hrl
        have HSF := Lib.hid (fun a c a' c' W (h1 : PrAt W a F fs) (h2 : PrAt W a' F fs) => same_eq fs HRM.out a F c a' c' W h1 h2 (by omega))
        have HFR := Lib.hid (fun a c W (h1 : PrAt W a F fs) => from_any fs a F c W h1 (by omega))
        clear hF HRM
        go_wp2_with fail
        refine (HTO.out _ (HT.out.below HB1.out)).mono ?_
        rintro e w2 ⟨a2, c2, rfl, htr, hb⟩
        have HB2 := Lib.hid (HB1.out.trans (hb.mono HB1.out.size))
        have HR2 := Lib.hid (TmR.at htr)
        clear htr hb HB1
        go_wp2_with fail
        refine (HPC.out a2 c2 _ HR2.out).mono ?_
        rintro e w3 ⟨a3, c3, rfl, hfn, hb⟩
        have HB3 := Lib.hid (HB2.out.trans (hb.mono HB2.out.size))
        have HP3 := Lib.hid (FnR.at hfn)
        clear hfn hb HB2 HR2
        go_wp2_with fail
        refine (HRC.out _ (HT.out.below HB3.out)).mono ?_
        rintro e w4 ⟨a4, c4, rfl, hfn, hb⟩
        have HB4 := Lib.hid (HB3.out.trans (hb.mono HB3.out.size))
        have HP4 := Lib.hid (HP3.out.below hb)
        have HQ4 := Lib.hid (FnR.at hfn)
        clear hfn hb HB3 HP3
        go_wp2_with fail
        refine (HFR.out a3 c3 _ HP4.out).mono ?_
        rintro e w5 ⟨a5, c5, rfl, hfn, hb⟩
        have HB5 := Lib.hid (HB4.out.trans (hb.mono HB4.out.size))
        have HQ5 := Lib.hid (HQ4.out.below hb)
        have HS5 := Lib.hid (FnR.at hfn)
        clear hfn hb HB4 HP4 HQ4
        go_wp2_with fail
        refine (HSF.out a5 c5 a4 c4 _ HS5.out HQ5.out).mono ?_
        rintro e w6 ⟨rfl, hb⟩
        have HB6 := Lib.hid (HB5.out.trans (hb.mono HB5.out.size))
        clear hb HB5 HQ5 HS5
        go_wp2_with fail
        refine (HTO.out _ (HT.out.below HB6.out)).mono ?_
        rintro e w7 ⟨a7, c7, rfl, htr, hb⟩
        have HB7 := Lib.hid (HB6.out.trans (hb.mono HB6.out.size))
        have HR7 := Lib.hid (TmR.at htr)
        clear htr hb HB6
        go_wp2_with fail
        refine (HPV.out a7 c7 _ HR7.out).mono ?_
        rintro e w8 ⟨rfl, hb⟩
        have HB8 := Lib.hid (HB7.out.trans (hb.mono HB7.out.size))
        clear hb HB7 HR7
        go_wp2_with fail
        refine (HRV.out _ (HT.out.below HB8.out)).mono ?_
        rintro e w9 ⟨rfl, hb⟩
        have HB9 := Lib.hid (HB8.out.trans (hb.mono HB8.out.size))
        clear hb HB8
        go_wp2_with fail
        go_ret
        exact ⟨by first | rfl | simp, HB9.out⟩
end Go.Proofs.Ytkodnagneblgaaa
namespace Go.Proofs.Ytkodnagneblgaaa.lawGlossaryCheck
open Go.ChangeShapes Go.WideShapes Go.ChangeAt Go.RowKit Go.Joins
open Go.ChangeMaps (open_string shut_string)
set_option maxRecDepth 100000 in
theorem lifted (os : Os) (started : os.Started) (H : Type) (enc : TypeId × Value → H) :
    ReturnsInHanded {} Try.checked os 3 .any (Rows.glossaryCheckSpec.pre6 enc Try.prog Try.f3 Rows.glossaryCheckRow.domain false) (Rows.glossaryCheckSpec.post enc Try.prog Try.f3 false true false false) := by
  refine returnsInHanded_of_change (C := Try.checked) own started (by kernel_rfl) Try.func3
    (ChangeSpec.witness6 (enc := enc) (C := Try.checked) false ⟨#[], #[.slice none 0 0, .string .empty, .string .empty], []⟩ 8 (by kernel_rfl) (by kernel_rfl) (by kernel_rfl) (by kernel_rfl)) ?_
  intro W base args ds gs before hval0 hW _ _
  have hval : ∀ (j : Nat) t v, Try.f3.params[j]? = some t → args[j]? = some v → Value.okWide Try.prog W .any base t v := hval0
  have hW' := hW
  obtain ⟨p, q, hA0, hV, rfl, hfz, hnd⟩ := hW
  have hA : DataW.TrodAll enc Try.prog W 0 (fun _ => true) true Try.f3.params.toList args.toList ds p := hA0
  rw [Try.params3] at hA hval
  obtain ⟨v0, vs0, d0, ds0, p0, q0, hargs, rfl, rfl, h0, r0⟩ := trodAll_cons hA
  obtain ⟨v1, vs1, d1, ds1, p1, q1, rfl, rfl, rfl, h1, r1⟩ := trodAll_cons r0
  obtain ⟨v2, vs2, d2, ds2, p2, q2, rfl, rfl, rfl, h2, r2⟩ := trodAll_cons r1
  obtain ⟨rfl, rfl, rfl⟩ := trodAll_nil r2
  obtain rfl : args = #[v0, v1, v2] := by cases args; simp_all
  obtain ⟨rfl, rfl⟩ := trodVars_none hV
  have k0 := h0
  have lt0 : ∀ x ∈ p0, x.block < W.heap.size := by obtain ⟨m, hm⟩ := k0; exact DataW.trod_lt m _ _ _ hm
  obtain ⟨a0, l0, cp0, rfl⟩ := okWide_slice Try.underlying22 (hval 0 22 v0 rfl rfl)
  obtain ⟨fuel0, hf0⟩ := h0
  obtain ⟨ad0, n0, c0, keys0, e0, hk0, _, hq0⟩ := open_tms (by simpa [Value.cells] using hf0)
  injection e0 with e01 e02 e03
  subst e01 e02 e03
  obtain ⟨s1, rfl, rfl, rfl, hs1⟩ := open_string Try.underlying9 (hval 1 9 v1 rfl rfl) h1
  obtain ⟨s2, rfl, rfl, rfl, hs2⟩ := open_string Try.underlying9 (hval 2 9 v2 rfl rfl) h2
  clear hA0 hval0
  refine (glossaryCheck_walk a0 l0 cp0 keys0 s1 s2 W hk0 hq0 (by unfold maxLen at hs1; omega) (by unfold maxLen at hs2; omega)).mono fun e W' ⟨he, bel⟩ => ?_
  subst he
  exact ⟨_, rfl, _, _, _, [], _, [], hW', trodAll_mk1 (shut_bool Try.underlying4 _), (trodAll_cons_mk (Below.trod laidOut (by kernel_rfl) (of_decide_eq_true (by kernel_rfl)) k0 bel lt0) (trodAll_cons_mk (shut_string Try.underlying9 hs1) (trodAll_cons_mk (shut_string Try.underlying9 hs2) trodAll_mk0))), rfl, bel.frame _, fun h => by cases h⟩

theorem proved : Rows.GlossaryCheckSaid :=
  OpenClaim.holds_of_wide 3 Try.f3 rfl rfl rfl rfl rfl rfl rfl ⟨rfl, rfl, rfl, rfl, rfl⟩ rfl rfl rfl rfl rfl (by kernel_rfl) Try.func3 (by kernel_rfl)
    (of_decide_eq_true (by kernel_rfl)) (by unfold Func.isWrapper; first | (rw [if_pos (by decide +kernel)]; kernel_rfl) | (rw [if_neg (by decide +kernel)]; exact ⟨rfl, rfl⟩))
    (fun os started H enc _ => lifted os started H enc)
#print axioms proved
end Go.Proofs.Ytkodnagneblgaaa.lawGlossaryCheck
