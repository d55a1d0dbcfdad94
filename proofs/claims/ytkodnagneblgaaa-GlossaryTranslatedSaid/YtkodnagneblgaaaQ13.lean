/- Walks: wrong translations, by the program: the closure and the search. -/
import Derived.Test.YtkodnagneblgaaaQ12
namespace Go.Proofs.Ytkodnagneblgaaa
open Go.RowKit Go.Maps Go.Sort
attribute [local go_sem] Ext.cell Ext.frozen
attribute [local go_sem ↓] Go.wp_at_zero Go.wp_at_succ
/-- an allowed term with this target that is in the source -/
def allowB (cs : ByteArray → Nat) (kt : ByteArray) (x : Tm) : Bool := !x.f && decide (keyB x.t = kt) && decide (0 < cs (keyB x.s))
set_option maxRecDepth 100000 in
set_option maxHeartbeats 8000000 in
theorem wrong1_any (x : Tm) (cs : ByteArray → Nat) (kt : ByteArray) (B1 B2 M1 m1 : Nat) (lv mv : Value) (w : World) (hs : x.s.size ≤ 100000) (ht : x.t.size ≤ 100000) (hcs : ∀ t, cs t ≤ 1000001) (h1 : CntAt w M1 m1 cs)
    (hb1 : w.heap[B1]? = some (.cells #[.string kt] 9 (0, 0))) (hb2 : w.heap[B2]? = some (.cells #[lv, .map (some M1), mv] 57 (0, 0))) :
    Calls Try.prog 40 #[.agg #[.string x.s, .string x.t, .bool x.f], .pointer (some ⟨B1, 0, none⟩), .pointer (some ⟨B2, 0, none⟩)] w fun e w' => e = .returned (.bool (allowB cs kt x)) ∧ Below w.heap.size w w' := by
  have HK := Lib.hid key_any
  have HOK : Hid (allowB cs kt x = (!x.f && decide (keyB x.t = kt) && decide (0 < cs (keyB x.s)))) := rfl
  have HKS : Hid ((keyB x.s).size ≤ maxLen) := Nat.le_trans (keyB_size _) (by unfold maxLen; omega)
  have HS := Lib.hid hs
  have HT := Lib.hid ht
  have HB1 := Lib.hid hb1
  have HB2 := Lib.hid hb2
  have HC1 := Lib.hid h1
  have HCS := Lib.hid hcs
  clear hs ht hb1 hb2 h1 hcs
  generalize allowB cs kt x = ok at *
  obtain ⟨s, t, f⟩ := x
  simp only at HOK HKS HS HT ⊢
  go_enter Try.func40, Try.ntmps40
  go_upto_region 1 with (fail)
  have HBA : Hid (Below w.heap.size w (w.alloc (.cells #[.string s, .string t, .bool f] 53))) := Bel.alloc (Bel.refl w) _
  have HX : Hid ((w.alloc (.cells #[.string s, .string t, .bool f] 53)).heap[w.heap.size]? = some (.cells #[.string s, .string t, .bool f] 53 (0, 0))) := heap_alloc_new w _
  have HB1 := Lib.hid ((HBA.out.block _ (Array.getElem?_eq_some_iff.1 HB1.out).1).trans HB1.out)
  have HB2 := Lib.hid ((HBA.out.block _ (Array.getElem?_eq_some_iff.1 HB2.out).1).trans HB2.out)
  have HC1 := Lib.hid (HC1.out.below HBA.out)
  generalize w.alloc (.cells #[.string s, .string t, .bool f] 53) = w1 at *
  have x0 := row_cells HX.out 0
  have x1 := row_cells HX.out 1
  have x2 := row_cells HX.out 2
  have y0 := row_cells HB1.out 0
  have z1 := row_cells HB2.out 1
  have l0 := (Array.getElem?_eq_some_iff.1 HX.out).1
  have l1 := (Array.getElem?_eq_some_iff.1 HB1.out).1
  have l2 := (Array.getElem?_eq_some_iff.1 HB2.out).1
  have hlk := fun X : Ext w1 => (HC1.out.below X.2).look (keyB s) HKS.out
  have hcb := HCS.out (keyB s)
  refine wp_region_ext (by kernel_rfl) (by kernel_rfl) ?_
  have HCL : Hid (∀ (X : World), Calls Try.prog 31 #[.string s] X fun e w' => e = .returned (.string (keyB s)) ∧ Below X.heap.size X w') := fun X => HK.out s X (Nat.le_trans HS.out (by omega))
  have HCT : Hid (∀ (X : World), Calls Try.prog 31 #[.string t] X fun e w' => e = .returned (.string (keyB t)) ∧ Below X.heap.size X w') := fun X => HK.out t X (Nat.le_trans HT.out (by omega))
  clear HK HS HT HB1 HB2 HX HKS HCS HC1
  generalize keyB s = ks at *
  generalize keyB t = kq at *
  generalize cs ks = ck at *
  cases f with
  | true =>
    have HV : Hid (ok = false) := HOK.out
    clear HOK
    repeat (go_big_quiet_step (fail))
    refine wpQuiet_nil ?_
    intro _ hw'
    obtain ⟨X9, hw''⟩ := hw'
    subst hw''
    go_wp2_with fail
    go_ret
    exact ⟨by rw [HV.out]; rfl, HBA.out.trans (X9.2.mono HBA.out.size)⟩
  | false =>
    by_cases e : kq = kt
    · subst e
      have HV : Hid (ok = decide (0 < ck)) := by rw [Hid, HOK.out]; simp
      have eqq : (kq.toList == kq.toList) = true := by simp
      clear HOK
      repeat (go_big_quiet_step (first | (go_at_call 31; first | exact Calls.ext (HCT.out _) | exact Calls.ext (HCL.out _))))
      refine wpQuiet_nil ?_
      intro _ hw'
      obtain ⟨X9, hw''⟩ := hw'
      subst hw''
      go_wp2_with fail
      go_ret
      exact ⟨by rw [HV.out]; rfl, HBA.out.trans (X9.2.mono HBA.out.size)⟩
    · have HV : Hid (ok = false) := by rw [Hid, HOK.out]; simp [e]
      have eqq : (kq.toList == kt.toList) = false := by rw [ba_bne]; exact decide_eq_false e
      clear HOK
      repeat (go_big_quiet_step (first | (go_at_call 31; first | exact Calls.ext (HCT.out _) | exact Calls.ext (HCL.out _))))
      refine wpQuiet_nil ?_
      intro _ hw'
      obtain ⟨X9, hw''⟩ := hw'
      subst hw''
      go_wp2_with fail
      go_ret
      exact ⟨by rw [HV.out]; rfl, HBA.out.trans (X9.2.mono HBA.out.size)⟩
end Go.Proofs.Ytkodnagneblgaaa
/- Walks: wrong translations, by the program. -/
namespace Go.Proofs.Ytkodnagneblgaaa
open Go.RowKit Go.Maps Go.Sort
attribute [local go_sem] Ext.cell Ext.frozen
attribute [local go_sem ↓] Go.wp_at_zero Go.wp_at_succ
/-- what the closure reads -/
def WrAt (w : World) (B1 B2 M1 m1 : Nat) (kt : ByteArray) (cs : ByteArray → Nat) (lv mv : Value) : Prop :=
  w.heap[B1]? = some (.cells #[.string kt] 9 (0, 0)) ∧ w.heap[B2]? = some (.cells #[lv, .map (some M1), mv] 57 (0, 0)) ∧ CntAt w M1 m1 cs
theorem WrAt.below {w w' : World} {B1 B2 M1 m1 : Nat} {kt : ByteArray} {cs : ByteArray → Nat} {lv mv : Value} (h : WrAt w B1 B2 M1 m1 kt cs lv mv) (hb : Below w.heap.size w w') : WrAt w' B1 B2 M1 m1 kt cs lv mv :=
  ⟨(hb.block _ (Array.getElem?_eq_some_iff.1 h.1).1).trans h.1, (hb.block _ (Array.getElem?_eq_some_iff.1 h.2.1).1).trans h.2.1, h.2.2.below hb⟩
set_option maxRecDepth 100000 in
set_option maxHeartbeats 8000000 in
theorem indexW_any (ts : List Tm) (cs : ByteArray → Nat) (kt : ByteArray) (B1 B2 M1 m1 : Nat) (lv mv : Value) (ad : Option Addr) (n c : Nat) (w : World) (ht : TmAt w ad n ts) (hn : n ≤ 1000) (hz : ∀ x ∈ ts, x.s.size ≤ 100000 ∧ x.t.size ≤ 100000) (hcs : ∀ t, cs t ≤ 1000001) (h1 : WrAt w B1 B2 M1 m1 kt cs lv mv) :
    Calls Try.prog 46 #[.slice ad n c, .func (.func 40) #[] #[.pointer (some ⟨B1, 0, none⟩), .pointer (some ⟨B2, 0, none⟩)]] w
      fun e w' => ∃ z : Int, e = .returned (.int .i64 z) ∧ -1 ≤ z ∧ z ≤ 1000 ∧ (decide (0 ≤ z) = ts.any (allowB cs kt)) ∧ Below w.heap.size w w' := by
  have HT := Lib.hid ht
  have HZ := Lib.hid hz
  have HL := Lib.hid ht.1
  have HW := Lib.hid h1
  have HC := Lib.hid (fun (x : Tm) (W : World) hs ht (h : WrAt W B1 B2 M1 m1 kt cs lv mv) => wrong1_any x cs kt B1 B2 M1 m1 lv mv W hs ht hcs h.2.2 h.1 h.2.1)
  clear ht hz h1 hcs
  go_enter Try.func46, Try.ntmps46
  go_wp2_with fail
  go_loopw [8] (fun u wr => ∃ i : Nat, u = .int .i64 (i : Int) ∧ i ≤ n ∧ (∀ j, j < i → allowB cs kt (ts.getD j tm0) = false) ∧ Below w.heap.size w wr) (fun u _ => n - (intOf u).toNat)
  case atStart => exact ⟨0, rfl, Nat.zero_le _, fun j hj => absurd hj (Nat.not_lt_zero _), Below.refl _ _⟩
  case round =>
    obtain ⟨i, rfl, hin, hno, hbl⟩ := hrel
    have HNO := Lib.hid hno
    have HB := Lib.hid hbl
    clear hno hbl
    by_cases hlt : i < n
    · obtain ⟨_, tb, tq, hrw⟩ := HT.out.below HB.out
      have hix := fun W => hrw.ix 29 53 Try.underlying29 cellsTm (by omega) hlt c W
      have h0 := hrw.cell i 0 hlt (by omega)
      have h1 := hrw.cell i 1 hlt (by omega)
      have h2 := hrw.cell i 2 hlt (by omega)
      rw [Nat.add_zero] at h0
      simp only [tmC] at h0 h1 h2
      have hmem := getD_mem ts i tm0 (by rw [HL.out]; exact hlt)
      obtain ⟨z1, z2⟩ := HZ.out (ts.getD i tm0) hmem
      have HZ1 := Lib.hid z1
      have HZ2 := Lib.hid z2
      have HNX : Hid (allowB cs kt (ts.getD i tm0) = false → ∀ j, j < i + 1 → allowB cs kt (ts.getD j tm0) = false) := fun h j hj => by
        by_cases e : j = i
        · rw [e]; exact h
        · exact HNO.out j (by omega)
      have HYS : Hid (allowB cs kt (ts.getD i tm0) = true → ts.any (allowB cs kt) = true) := fun h => List.any_eq_true.2 ⟨_, hmem, h⟩
      have hlz : (i : Int) < (n : Int) := by omega
      clear hrw z1 z2 hmem HNO
      have HC1 := Lib.hid (HC.out (ts.getD i tm0))
      generalize ts.getD i tm0 = x at *
      have HC2 : Hid (allowB cs kt x = allowB cs kt x) := rfl
      generalize hal : allowB cs kt x = al at *
      clear hal HC2
      go_wp2_with fail
      refine (HC1.out _ HZ1.out HZ2.out (HW.out.below HB.out)).mono ?_
      rintro e w2 ⟨rfl, hb⟩
      have HB2 := Lib.hid (HB.out.trans (hb.mono HB.out.size))
      clear hb
      cases al with
      | true =>
        have HV := HYS.out rfl
        go_wp2_with fail
        go_ret
        exact ⟨_, rfl, by omega, by omega, by rw [HV]; exact decide_eq_true (by omega), HB2.out⟩
      | false =>
        have HN := Lib.hid (HNX.out rfl)
        clear HNX HYS
        go_wp2_with fail
        go_roundw
        case rel => exact ⟨i + 1, by go_num, by omega, HN.out, HB2.out⟩
        case measure => simp [intOf]; omega
    · obtain rfl : i = n := by omega
      have HV : Hid (ts.any (allowB cs kt) = false) := by
        rw [Hid, List.any_eq_false]
        intro x hx
        obtain ⟨j, hj, rfl⟩ := List.getElem_of_mem hx
        have := HNO.out j (by rw [← HL.out]; exact hj)
        rw [List.getD_eq_getElem?_getD, List.getElem?_eq_getElem hj] at this
        simpa using this
      go_wp2_with fail
      go_ret
      exact ⟨_, rfl, by omega, by omega, by rw [HV.out]; rfl, HB.out⟩
theorem containsW_any (ts : List Tm) (cs : ByteArray → Nat) (kt : ByteArray) (B1 B2 M1 m1 : Nat) (lv mv : Value) (ad : Option Addr) (n c : Nat) (w : World) (ht : TmAt w ad n ts) (hn : n ≤ 1000) (hz : ∀ x ∈ ts, x.s.size ≤ 100000 ∧ x.t.size ≤ 100000) (hcs : ∀ t, cs t ≤ 1000001) (h1 : WrAt w B1 B2 M1 m1 kt cs lv mv) :
    Calls Try.prog 39 #[.slice ad n c, .func (.func 40) #[] #[.pointer (some ⟨B1, 0, none⟩), .pointer (some ⟨B2, 0, none⟩)]] w
      fun e w' => e = .returned (.bool (ts.any (allowB cs kt))) ∧ Below w.heap.size w w' := by
  have HI := Lib.hid (indexW_any ts cs kt B1 B2 M1 m1 lv mv ad n c w ht hn hz hcs h1)
  clear ht hz h1 hcs
  generalize ts.any (allowB cs kt) = b at *
  go_enter Try.func39, Try.ntmps39
  go_wp2_with fail
  refine HI.out.mono ?_
  rintro e w1 ⟨z, rfl, hz1, hz2, hzb, hb⟩
  have HB := Lib.hid hb
  have HZB := Lib.hid hzb
  clear hb hzb
  go_wp2_with fail
  go_ret
  exact ⟨by rw [← HZB.out]; rfl, HB.out⟩
end Go.Proofs.Ytkodnagneblgaaa
/- Walks: wrong translations, by the program, whole. -/
namespace Go.Proofs.Ytkodnagneblgaaa
open Go.RowKit Go.Maps Go.Sort
attribute [local go_sem] Ext.cell Ext.frozen
attribute [local go_sem ↓] Go.wp_at_zero Go.wp_at_succ
/-- what wrong answers -/
def wrongV (ts : List Tm) (cs ct : ByteArray → Nat) (i : Nat) : Bool :=
  (ts.getD i tm0).f && decide (0 < cs (keyB (ts.getD i tm0).s)) && decide (0 < ct (keyB (ts.getD i tm0).t)) && !(ts.any (allowB cs (keyB (ts.getD i tm0).t)))
set_option maxRecDepth 100000 in
set_option maxHeartbeats 8000000 in
theorem wrong_any (ts : List Tm) (cs ct : ByteArray → Nat) (ad : Option Addr) (n c M1 m1 M2 m2 i : Nat) (w : World) (ht : TmAt w ad n ts) (hn : n ≤ 1000) (hi : i < n) (hz : ∀ x ∈ ts, x.s.size ≤ 100000 ∧ x.t.size ≤ 100000) (h1 : CntAt w M1 m1 cs) (h2 : CntAt w M2 m2 ct) (hcs : ∀ t, cs t ≤ 1000001) (hct : ∀ t, ct t ≤ 1000001) :
    Calls Try.prog 26 #[.agg #[.slice ad n c, .map (some M1), .map (some M2)], .int .i64 (i : Int)] w fun e w' => e = .returned (.bool (wrongV ts cs ct i)) ∧ Below w.heap.size w w' := by
  have HT := Lib.hid ht
  have HC1 := Lib.hid h1
  have HC2 := Lib.hid h2
  have HL := Lib.hid ht.1
  have HK := Lib.hid key_any
  have HCW := Lib.hid (fun kt B1 B2 (lv mv : Value) (W : World) (g : TmAt W ad n ts) (g1 : WrAt W B1 B2 M1 m1 kt cs lv mv) => containsW_any ts cs kt B1 B2 M1 m1 lv mv ad n c W g hn hz hcs g1)
  obtain ⟨_, b, off, hrw⟩ := ht
  have hix := fun W => hrw.ix 29 53 Try.underlying29 cellsTm (by omega) hi c W
  have g0 := hrw.cell i 0 hi (by omega)
  have g1 := hrw.cell i 1 hi (by omega)
  have g2 := hrw.cell i 2 hi (by omega)
  rw [Nat.add_zero] at g0
  simp only [tmC] at g0 g1 g2
  obtain ⟨z1, z2⟩ := hz (ts.getD i tm0) (getD_mem _ _ _ (by rw [HL.out]; exact hi))
  have HZ1 := Lib.hid z1
  have HZ2 := Lib.hid z2
  have hc1 := hcs (keyB (ts.getD i tm0).s)
  have hc2 := hct (keyB (ts.getD i tm0).t)
  have HKS : Hid ((keyB (ts.getD i tm0).s).size ≤ maxLen) := Nat.le_trans (keyB_size _) (by unfold maxLen; omega)
  have HKT : Hid ((keyB (ts.getD i tm0).t).size ≤ maxLen) := Nat.le_trans (keyB_size _) (by unfold maxLen; omega)
  have HV : Hid (wrongV ts cs ct i = ((ts.getD i tm0).f && decide (0 < cs (keyB (ts.getD i tm0).s)) && decide (0 < ct (keyB (ts.getD i tm0).t)) && !(ts.any (allowB cs (keyB (ts.getD i tm0).t))))) := rfl
  clear hrw hz h1 h2 hct hcs z1 z2
  generalize wrongV ts cs ct i = wv at *
  generalize ts.getD i tm0 = x at *
  have hiz : (i : Int) < (n : Int) := by omega
  obtain ⟨s, t, f⟩ := x
  simp only at g0 g1 g2 HZ1 HZ2 hc1 hc2 HKS HKT HV ⊢
  go_enter Try.func26, Try.ntmps26
  go_upto_region 1 with (fail)
  have HB0 : Hid (Below w.heap.size w (w.alloc (.cells #[.slice ad n c, .map (some M1), .map (some M2)] 57))) := Bel.alloc (Bel.refl w) _
  have HX0 : Hid ((w.alloc (.cells #[.slice ad n c, .map (some M1), .map (some M2)] 57)).heap[w.heap.size]? = some (.cells #[.slice ad n c, .map (some M1), .map (some M2)] 57 (0, 0))) := heap_alloc_new w _
  have g0' := cell_later HB0.out g0
  have g1' := cell_later HB0.out g1
  have g2' := cell_later HB0.out g2
  generalize w.alloc (.cells #[.slice ad n c, .map (some M1), .map (some M2)] 57) = w0 at *
  have x0 := row_cells HX0.out 0
  clear g0 g1 g2
  go_upto_region 2 with (fail)
  have hbk : Below w0.heap.size w0 (w0.alloc (.cells #[.string s, .string t, .bool f] 53)) := Bel.alloc (Bel.refl w0) _
  have HB1 : Hid (Below w.heap.size w (w0.alloc (.cells #[.string s, .string t, .bool f] 53))) := HB0.out.trans (hbk.mono HB0.out.size)
  have HX1 := Lib.hid ((hbk.block _ (Array.getElem?_eq_some_iff.1 HX0.out).1).trans HX0.out)
  have HY1 : Hid ((w0.alloc (.cells #[.string s, .string t, .bool f] 53)).heap[w0.heap.size]? = some (.cells #[.string s, .string t, .bool f] 53 (0, 0))) := heap_alloc_new w0 _
  generalize w0.alloc (.cells #[.string s, .string t, .bool f] 53) = w1 at *
  obtain ⟨B5, hB5⟩ : ∃ B5, w0.heap.size = B5 := ⟨_, rfl⟩
  rw [hB5] at HY1 ⊢
  clear hbk hB5 HB0 HX0 x0 g0' g1' g2' hix
  have y1 := row_cells HY1.out 1
  go_wp2_with (first | exact HK.out t _ (Nat.le_trans HZ2.out (by omega)))
  refine (HK.out t _ (Nat.le_trans HZ2.out (by omega))).mono ?_
  rintro e w2 ⟨rfl, hb⟩
  have HB2 := Lib.hid (HB1.out.trans (hb.mono HB1.out.size))
  have HX2 := Lib.hid ((hb.block _ (Array.getElem?_eq_some_iff.1 HX1.out).1).trans HX1.out)
  have HY2 := Lib.hid ((hb.block _ (Array.getElem?_eq_some_iff.1 HY1.out).1).trans HY1.out)
  clear hb HB1 HX1 HY1 y1
  have hz2 := HB2.out.size
  go_upto_region 3 with (fail)
  have hbk : Below w2.heap.size w2 (w2.alloc (.cells #[.string (keyB t)] 9)) := Bel.alloc (Bel.refl w2) _
  have HB3 : Hid (Below w.heap.size w (w2.alloc (.cells #[.string (keyB t)] 9))) := HB2.out.trans (hbk.mono HB2.out.size)
  have HX3 := Lib.hid ((hbk.block _ (Array.getElem?_eq_some_iff.1 HX2.out).1).trans HX2.out)
  have HY3 := Lib.hid ((hbk.block _ (Array.getElem?_eq_some_iff.1 HY2.out).1).trans HY2.out)
  have HZ3 : Hid ((w2.alloc (.cells #[.string (keyB t)] 9)).heap[w2.heap.size]? = some (.cells #[.string (keyB t)] 9 (0, 0))) := heap_alloc_new w2 _
  generalize w2.alloc (.cells #[.string (keyB t)] 9) = w3 at *
  obtain ⟨B6, hB6⟩ : ∃ B6, w2.heap.size = B6 := ⟨_, rfl⟩
  rw [hB6] at HZ3 ⊢
  clear hbk hB6 HB2 HX2 HY2 hz2
  have x1 := row_cells HX3.out 1
  have x2 := row_cells HX3.out 2
  have y0 := row_cells HY3.out 0
  have y2 := row_cells HY3.out 2
  have zz := row_cells HZ3.out 0
  have l0 := (Array.getElem?_eq_some_iff.1 HX3.out).1
  have l1 := (Array.getElem?_eq_some_iff.1 HY3.out).1
  have l2 := (Array.getElem?_eq_some_iff.1 HZ3.out).1
  have hlk1 := fun X : Ext w3 => (HC1.out.below (HB3.out.trans (X.2.mono HB3.out.size))).look (keyB s) HKS.out
  have hlk2 := fun X : Ext w3 => (HC2.out.below (HB3.out.trans (X.2.mono HB3.out.size))).look (keyB t) HKT.out
  have HWR : Hid (WrAt w3 B6 w.heap.size M1 m1 (keyB t) cs (.slice ad n c) (.map (some M2))) := ⟨HZ3.out, HX3.out, HC1.out.below HB3.out⟩
  have HT3 := Lib.hid (HT.out.below HB3.out)
  have x0 := row_cells HX3.out 0
  have HCL : Hid (∀ (X : World), Calls Try.prog 31 #[.string s] X fun e w' => e = .returned (.string (keyB s)) ∧ Below X.heap.size X w') := fun X => HK.out s X (Nat.le_trans HZ1.out (by omega))
  refine wp_region_ext (by kernel_rfl) (by kernel_rfl) ?_
  have HCW2 := Lib.hid (HCW.out (keyB t))
  generalize ts.any (allowB cs (keyB t)) = aw at *
  clear HK HZ1 HZ2 HX3 HY3 HZ3 HKS HKT HC1 HC2 HCW HT
  generalize keyB s = ks at *
  generalize keyB t = kt at *
  generalize ct kt = ckt at *
  obtain ⟨cks, hcks⟩ : ∃ cks, cs ks = cks := ⟨_, rfl⟩
  rw [hcks] at HV hc1 hlk1
  clear hcks
  cases f with
  | false =>
    have HW : Hid (wv = false) := HV.out
    clear HV
    repeat (go_big_quiet_step (first | (go_at_call 31; exact Calls.ext (HCL.out _))))
    refine wpQuiet_nil ?_
    intro _ hw'
    obtain ⟨X9, hw''⟩ := hw'
    subst hw''
    go_wp2_with fail
    go_ret
    exact ⟨by rw [HW.out]; rfl, HB3.out.trans (X9.2.mono HB3.out.size)⟩
  | true =>
    by_cases e1 : 0 < cks
    · have e1z : ¬ (cks : Int) = 0 := by omega
      have e1d : decide ((cks : Int) = 0) = false := decide_eq_false e1z
      have e1b : ((cks : Int) == 0) = false := by simpa using e1z
      by_cases e2 : 0 < ckt
      · have e2z : ¬ (ckt : Int) = 0 := by omega
        have e2d : decide ((ckt : Int) = 0) = false := decide_eq_false e2z
        have e2b : ((ckt : Int) == 0) = false := by simpa using e2z
        have HW : Hid (wv = !aw) := by rw [Hid, HV.out]; simp [e1, e2]
        clear HV
        repeat (go_big_quiet_step (first | (go_at_call 31; exact Calls.ext (HCL.out _))))
        refine wpQuiet_nil ?_
        intro _ hw'
        obtain ⟨X9, hw''⟩ := hw'
        subst hw''
        go_wp2_with fail
        refine (HCW2.out B6 w.heap.size _ _ _ (HT3.out.below X9.2) (HWR.out.below X9.2)).mono ?_
        rintro e w5 ⟨rfl, hb⟩
        have HB5 : Hid (Below w.heap.size w w5) := (HB3.out.trans (X9.2.mono HB3.out.size)).trans (hb.mono (HB3.out.trans (X9.2.mono HB3.out.size)).size)
        clear hb
        go_wp2_with fail
        go_ret
        exact ⟨by rw [HW.out]; rfl, HB5.out⟩
      · obtain rfl : ckt = 0 := by omega
        have HW : Hid (wv = false) := by rw [Hid, HV.out]; simp
        clear HV
        repeat (go_big_quiet_step (first | (go_at_call 31; exact Calls.ext (HCL.out _))))
        refine wpQuiet_nil ?_
        intro _ hw'
        obtain ⟨X9, hw''⟩ := hw'
        subst hw''
        go_wp2_with fail
        go_ret
        exact ⟨by rw [HW.out]; rfl, HB3.out.trans (X9.2.mono HB3.out.size)⟩
    · obtain rfl : cks = 0 := by omega
      have HW : Hid (wv = false) := by rw [Hid, HV.out]; simp
      clear HV
      repeat (go_big_quiet_step (first | (go_at_call 31; exact Calls.ext (HCL.out _))))
      refine wpQuiet_nil ?_
      intro _ hw'
      obtain ⟨X9, hw''⟩ := hw'
      subst hw''
      go_wp2_with fail
      go_ret
      exact ⟨by rw [HW.out]; rfl, HB3.out.trans (X9.2.mono HB3.out.size)⟩
end Go.Proofs.Ytkodnagneblgaaa
/- Two rows of strings of the call's own that grow by turns. -/
namespace Go.Proofs.Ytkodnagneblgaaa
open Go.RowKit Go.Maps Go.Sort
/-- two rows in different blocks -/
structure Two (w : World) (base : Nat) (v1 : Value) (xs : List ByteArray) (v2 : Value) (ys : List ByteArray) : Prop where
  r1 : StrR w base v1 xs
  r2 : StrR w base v2 ys
  ap : ∀ b, v1.ownBlock = some b → v2.ownBlock ≠ some b
theorem Two.swap {w : World} {base : Nat} {v1 v2 : Value} {xs ys : List ByteArray} (h : Two w base v1 xs v2 ys) : Two w base v2 ys v1 xs := ⟨h.r2, h.r1, fun b e1 e2 => h.ap b e2 e1⟩
theorem Two.below {w w' : World} {base : Nat} {v1 v2 : Value} {xs ys : List ByteArray} (h : Two w base v1 xs v2 ys) (hb : Below w.heap.size w w') : Two w' base v1 xs v2 ys := ⟨own_below h.r1 hb, own_below h.r2 hb, h.ap⟩
theorem Two.start (w : World) (base : Nat) : Two w base (.slice none 0 0) [] (.slice none 0 0) [] := ⟨⟨rfl, .inl ⟨rfl, rfl⟩⟩, ⟨rfl, .inl ⟨rfl, rfl⟩⟩, fun b h => by cases h⟩
theorem infoStrG : (Try.prog.info? 9).map (fun i => (i.zero, i.size, i.bytes)) = some (some (.string .empty), 1, 16) := by kernel_rfl
theorem Two.push {w w' : World} {base : Nat} {v1 v2 v1' : Value} {xs ys zs : List ByteArray} (h : Two w base v1 xs v2 ys) (hn : StrR w' base v1' zs) (hg : w.grownBy w' v1.ownBlock) (hl : v1'.ownBlock = v1.ownBlock ∨ v1'.ownBlock = some w.heap.size) : Two w' base v1' zs v2 ys := by
  refine ⟨hn, World.ownsRow.kept h.r2 hg ?_, fun b e1 e2 => ?_⟩
  · rcases hq : v2.ownBlock with _ | b
    · exact .inl rfl
    · exact .inr (fun e => h.ap b e.symm hq)
  · rcases hl with e | e
    · exact h.ap b (e ▸ e1) e2
    · rw [e] at e1
      injection e1 with e1
      subst e1
      exact absurd (World.ownsRow.lt h.r2 _ e2).2 (by omega)
/-- an append to the first of two rows, as a step of a region -/
theorem step_two {w : World} {ops : Array Oper} {o : Oper} {a : Act} {K : Act → World → Prop} {Q : Exit → Act → World → Prop} {R : Prop} (hgd : o.guard = none) (s x : Operand) (ho : o.op = .call { callee := .builtin .append, args := #[s, x], argTypes := #[39, 39] })
    (base : Nat) (v1 v2 : Value) (xs ys : List ByteArray) (hs : a.eval s = v1) (h2 : Two w base v1 xs v2 ys) (B : Nat) (t : ByteArray) (hx : a.eval x = .slice (some ⟨B, 0, none⟩) 1 1) (hB : w.heap[B]? = some (.cells #[.string t] 9 (0, 0))) (hlen : xs.length ≤ 100000) (hbase : base ≤ w.heap.size)
    (h : ∀ v1' w', Two w' base v1' (xs ++ [t]) v2 ys → w.grownBy w' v1.ownBlock → Below base w w' → K (a.put o.dst v1') w') :
    if Region.wanted o (yielded ops a.tmps) = true then Oper.wp Try.prog o a w K Q else R := by
  refine step_app_at hgd s x ho Try.underlying39 infoStrG rfl base v1 xs.length (strs xs) hs h2.r1 ⟨B, 0, none⟩ 1 1 [.string t] hx rfl ?_ (by intro u hu; rw [List.mem_singleton.1 hu]; rfl) (by unfold maxLen; omega) (by omega) hbase ?_
  · intro j u hj
    cases j with
    | zero =>
      simp only [List.getElem?_cons_zero, Option.some.injEq] at hj
      subst hj
      have := row_cells hB 0
      simpa [Addr.add] using this
    | succ j => simp at hj
  · intro v' w' ho' hg hl
    refine h v' w' (h2.push ?_ hg hl) hg ((Below.refl base w).grown hg hbase (fun k hk => (World.ownsRow.lt h2.r1 k hk).1))
    unfold StrR
    rw [List.length_append, strs_snoc]
    exact ho'
/-- a block made in between is not the row's -/
theorem Two.far {w : World} {base : Nat} {v1 v2 : Value} {xs ys : List ByteArray} (h : Two w base v1 xs v2 ys) {B : Nat} (hB : w.heap.size ≤ B) : v1.ownBlock ≠ some B := fun e => by
  have := (World.ownsRow.lt h.r1 B e).2
  omega
end Go.Proofs.Ytkodnagneblgaaa
