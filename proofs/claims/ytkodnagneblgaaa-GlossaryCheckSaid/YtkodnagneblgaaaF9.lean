/- Walks: wrong translations, by the program, whole. -/
import Derived.Test.YtkodnagneblgaaaF8
namespace Go.Proofs.Ytkodnagneblgaaa
open Go.RowKit Go.Maps Go.Sort
attribute [local go_sem] Ext.cell Ext.frozen
attribute [local go_sem ↓] Go.wp_at_zero Go.wp_at_succ
/-- what wrong answers -/
def wrongV (ts : List Tm) (cs ct : ByteArray → Nat) (i : Nat) : Bool :=
  (ts.getD i tm0).f && decide (0 < cs (keyB (ts.getD i tm0).s)) && decide (0 < ct (keyB (ts.getD i tm0).t)) && !(ts.any (allowB cs (keyB (ts.getD i tm0).t)))
set_option maxRecDepth 100000 in
set_option maxHeartbeats 8000000 in
theorem wrong_any (ts : List Tm) (cs ct : ByteArray → Nat) (ad : Option Addr) (n c M1 m1 M2 m2 i : Nat) (w : World) (ht : TmAt w ad n ts) (hn : n ≤ 1000) (hi : i < n) (hz : ∀ x ∈ ts, x.s.size ≤ 100000 ∧ x.t.size ≤ 100000) (h1 : CntAt w M1 m1 cs) (h2 : CntAt w M2 m2 ct) (hcs : ∀ t, cs t ≤ 1000001) (hct : ∀ t, ct t ≤ 1000001) :
    Calls Try.prog 26 #[.agg #[.slice ad n c, .map (some M1), .map (some M2)], .int .i64 (i : Int)] w fun e w' => e = .returned (.bool (wrongV ts cs ct i)) ∧ Below w.heap.size w w' := by
  have HT := Lib.hid ht
  have HC1 := Lib.hid h1
  have HC2 := Lib.hid h2
  have HL := Lib.hid ht.1
  have HK := Lib.hid key_any
  have HCW := Lib.hid (fun kt B1 B2 (lv mv : Value) (W : World) (g : TmAt W ad n ts) (g1 : WrAt W B1 B2 M1 m1 kt cs lv mv) => containsW_any ts cs kt B1 B2 M1 m1 lv mv ad n c W g hn hz hcs g1)
  obtain ⟨_, b, off, hrw⟩ := ht
  have hix := fun W => hrw.ix 29 53 Try.underlying29 cellsTm (by omega) hi c W
  have g0 := hrw.cell i 0 hi (by omega)
  have g1 := hrw.cell i 1 hi (by omega)
  have g2 := hrw.cell i 2 hi (by omega)
  rw [Nat.add_zero] at g0
  simp only [tmC] at g0 g1 g2
  obtain ⟨z1, z2⟩ := hz (ts.getD i tm0) (getD_mem _ _ _ (by rw [HL.out]; exact hi))
  have HZ1 := Lib.hid z1
  have HZ2 := Lib.hid z2
  have hc1 := hcs (keyB (ts.getD i tm0).s)
  have hc2 := hct (keyB (ts.getD i tm0).t)
  have HKS : Hid ((keyB (ts.getD i tm0).s).size ≤ maxLen) := Nat.le_trans (keyB_size _) (by unfold maxLen; omega)
  have HKT : Hid ((keyB (ts.getD i tm0).t).size ≤ maxLen) := Nat.le_trans (keyB_size _) (by unfold maxLen; omega)
  have HV : Hid (wrongV ts cs ct i = ((ts.getD i tm0).f && decide (0 < cs (keyB (ts.getD i tm0).s)) && decide (0 < ct (keyB (ts.getD i tm0).t)) && !(ts.any (allowB cs (keyB (ts.getD i tm0).t))))) := rfl
  clear hrw hz h1 h2 hct hcs z1 z2
  generalize wrongV ts cs ct i = wv at *
  generalize ts.getD i tm0 = x at *
  have hiz : (i : Int) < (n : Int) := by omega
  obtain ⟨s, t, f⟩ := x
  simp only at g0 g1 g2 HZ1 HZ2 hc1 hc2 HKS HKT HV ⊢
  go_enter Try.func26, Try.ntmps26
  go_upto_region 1 with (fail)
  have HB0 : Hid (Below w.heap.size w (w.alloc (.cells #[.slice ad n c, .map (some M1), .map (some M2)] 57))) := Bel.alloc (Bel.refl w) _
  have HX0 : Hid ((w.alloc (.cells #[.slice ad n c, .map (some M1), .map (some M2)] 57)).heap[w.heap.size]? = some (.cells #[.slice ad n c, .map (some M1), .map (some M2)] 57 (0, 0))) := heap_alloc_new w _
  have g0' := cell_later HB0.out g0
  have g1' := cell_later HB0.out g1
  have g2' := cell_later HB0.out g2
  generalize w.alloc (.cells #[.slice ad n c, .map (some M1), .map (some M2)] 57) = w0 at *
  have x0 := row_cells HX0.out 0
  clear g0 g1 g2
  go_upto_region 2 with (fail)
  have hbk : Below w0.heap.size w0 (w0.alloc (.cells #[.string s, .string t, .bool f] 53)) := Bel.alloc (Bel.refl w0) _
  have HB1 : Hid (Below w.heap.size w (w0.alloc (.cells #[.string s, .string t, .bool f] 53))) := HB0.out.trans (hbk.mono HB0.out.size)
  have HX1 := Lib.hid ((hbk.block _ (Array.getElem?_eq_some_iff.1 HX0.out).1).trans HX0.out)
  have HY1 : Hid ((w0.alloc (.cells #[.string s, .string t, .bool f] 53)).heap[w0.heap.size]? = some (.cells #[.string s, .string t, .bool f] 53 (0, 0))) := heap_alloc_new w0 _
  generalize w0.alloc (.cells #[.string s, .string t, .bool f] 53) = w1 at *
  obtain ⟨B5, hB5⟩ : ∃ B5, w0.heap.size = B5 := ⟨_, rfl⟩
  rw [hB5] at HY1 ⊢
  clear hbk hB5 HB0 HX0 x0 g0' g1' g2' hix
  have y1 := row_cells HY1.out 1
  go_wp2_with (first | exact HK.out t _ (Nat.le_trans HZ2.out (by omega)))
  refine (HK.out t _ (Nat.le_trans HZ2.out (by omega))).mono ?_
  rintro e w2 ⟨rfl, hb⟩
  have HB2 := Lib.hid (HB1.out.trans (hb.mono HB1.out.size))
  have HX2 := Lib.hid ((hb.block _ (Array.getElem?_eq_some_iff.1 HX1.out).1).trans HX1.out)
  have HY2 := Lib.hid ((hb.block _ (Array.getElem?_eq_some_iff.1 HY1.out).1).trans HY1.out)
  clear hb HB1 HX1 HY1 y1
  have hz2 := HB2.out.size
  go_upto_region 3 with (fail)
  have hbk : Below w2.heap.size w2 (w2.alloc (.cells #[.string (keyB t)] 9)) := Bel.alloc (Bel.refl w2) _
  have HB3 : Hid (Below w.heap.size w (w2.alloc (.cells #[.string (keyB t)] 9))) := HB2.out.trans (hbk.mono HB2.out.size)
  have HX3 := Lib.hid ((hbk.block _ (Array.getElem?_eq_some_iff.1 HX2.out).1).trans HX2.out)
  have HY3 := Lib.hid ((hbk.block _ (Array.getElem?_eq_some_iff.1 HY2.out).1).trans HY2.out)
  have HZ3 : Hid ((w2.alloc (.cells #[.string (keyB t)] 9)).heap[w2.heap.size]? = some (.cells #[.string (keyB t)] 9 (0, 0))) := heap_alloc_new w2 _
  generalize w2.alloc (.cells #[.string (keyB t)] 9) = w3 at *
  obtain ⟨B6, hB6⟩ : ∃ B6, w2.heap.size = B6 := ⟨_, rfl⟩
  rw [hB6] at HZ3 ⊢
  clear hbk hB6 HB2 HX2 HY2 hz2
  have x1 := row_cells HX3.out 1
  have x2 := row_cells HX3.out 2
  have y0 := row_cells HY3.out 0
  have y2 := row_cells HY3.out 2
  have zz := row_cells HZ3.out 0
  have l0 := (Array.getElem?_eq_some_iff.1 HX3.out).1
  have l1 := (Array.getElem?_eq_some_iff.1 HY3.out).1
  have l2 := (Array.getElem?_eq_some_iff.1 HZ3.out).1
  have hlk1 := fun X : Ext w3 => (HC1.out.below (HB3.out.trans (X.2.mono HB3.out.size))).look (keyB s) HKS.out
  have hlk2 := fun X : Ext w3 => (HC2.out.below (HB3.out.trans (X.2.mono HB3.out.size))).look (keyB t) HKT.out
  have HWR : Hid (WrAt w3 B6 w.heap.size M1 m1 (keyB t) cs (.slice ad n c) (.map (some M2))) := ⟨HZ3.out, HX3.out, HC1.out.below HB3.out⟩
  have HT3 := Lib.hid (HT.out.below HB3.out)
  have x0 := row_cells HX3.out 0
  have HCL : Hid (∀ (X : World), Calls Try.prog 31 #[.string s] X fun e w' => e = .returned (.string (keyB s)) ∧ Below X.heap.size X w') := fun X => HK.out s X (Nat.le_trans HZ1.out (by omega))
  refine wp_region_ext (by kernel_rfl) (by kernel_rfl) ?_
  have HCW2 := Lib.hid (HCW.out (keyB t))
  generalize ts.any (allowB cs (keyB t)) = aw at *
  clear HK HZ1 HZ2 HX3 HY3 HZ3 HKS HKT HC1 HC2 HCW HT
  generalize keyB s = ks at *
  generalize keyB t = kt at *
  generalize ct kt = ckt at *
  obtain ⟨cks, hcks⟩ : ∃ cks, cs ks = cks := ⟨_, rfl⟩
  rw [hcks] at HV hc1 hlk1
  clear hcks
  cases f with
  | false =>
    have HW : Hid (wv = false) := HV.out
    clear HV
    repeat (go_big_quiet_step (first | (go_at_call 31; exact Calls.ext (HCL.out _))))
    refine wpQuiet_nil ?_
    intro _ hw'
    obtain ⟨X9, hw''⟩ := hw'
    subst hw''
    go_wp2_with fail
    go_ret
    exact ⟨by rw [HW.out]; rfl, HB3.out.trans (X9.2.mono HB3.out.size)⟩
  | true =>
    by_cases e1 : 0 < cks
    · have e1z : ¬ (cks : Int) = 0 := by omega
      have e1d : decide ((cks : Int) = 0) = false := decide_eq_false e1z
      have e1b : ((cks : Int) == 0) = false := by simpa using e1z
      by_cases e2 : 0 < ckt
      · have e2z : ¬ (ckt : Int) = 0 := by omega
        have e2d : decide ((ckt : Int) = 0) = false := decide_eq_false e2z
        have e2b : ((ckt : Int) == 0) = false := by simpa using e2z
        have HW : Hid (wv = !aw) := by rw [Hid, HV.out]; simp [e1, e2]
        clear HV
        repeat (go_big_quiet_step (first | (go_at_call 31; exact Calls.ext (HCL.out _))))
        refine wpQuiet_nil ?_
        intro _ hw'
        obtain ⟨X9, hw''⟩ := hw'
        subst hw''
        go_wp2_with fail
        refine (HCW2.out B6 w.heap.size _ _ _ (HT3.out.below X9.2) (HWR.out.below X9.2)).mono ?_
        rintro e w5 ⟨rfl, hb⟩
        have HB5 : Hid (Below w.heap.size w w5) := (HB3.out.trans (X9.2.mono HB3.out.size)).trans (hb.mono (HB3.out.trans (X9.2.mono HB3.out.size)).size)
        clear hb
        go_wp2_with fail
        go_ret
        exact ⟨by rw [HW.out]; rfl, HB5.out⟩
      · obtain rfl : ckt = 0 := by omega
        have HW : Hid (wv = false) := by rw [Hid, HV.out]; simp
        clear HV
        repeat (go_big_quiet_step (first | (go_at_call 31; exact Calls.ext (HCL.out _))))
        refine wpQuiet_nil ?_
        intro _ hw'
        obtain ⟨X9, hw''⟩ := hw'
        subst hw''
        go_wp2_with fail
        go_ret
        exact ⟨by rw [HW.out]; rfl, HB3.out.trans (X9.2.mono HB3.out.size)⟩
    · obtain rfl : cks = 0 := by omega
      have HW : Hid (wv = false) := by rw [Hid, HV.out]; simp
      clear HV
      repeat (go_big_quiet_step (first | (go_at_call 31; exact Calls.ext (HCL.out _))))
      refine wpQuiet_nil ?_
      intro _ hw'
      obtain ⟨X9, hw''⟩ := hw'
      subst hw''
      go_wp2_with fail
      go_ret
      exact ⟨by rw [HW.out]; rfl, HB3.out.trans (X9.2.mono HB3.out.size)⟩
end Go.Proofs.Ytkodnagneblgaaa
