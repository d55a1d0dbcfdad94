/- Walks: the reference's equality of relations and conditions. -/
import Derived.Test.YtmleeodfmmpdgaaGreatDoorQ30
namespace Go.Proofs.YtmleeodfmmpdgaaGreatDoor
open Go.RowKit
attribute [local go_sem] Ext.cell Ext.frozen
attribute [local go_sem ↓] Go.wp_at_zero Go.wp_at_succ
def RelWf (r : Rel) : Prop := ∀ p ∈ r.sp, W6i p.1 ∧ W6i p.2
theorem RelWf.at {r : Rel} (h : RelWf r) {k : Nat} (hk : k < r.sp.length) : W6i (r.sp.getD k (0, 0)).1 ∧ W6i (r.sp.getD k (0, 0)).2 := by
  rw [← getD_of r.sp (0, 0) hk]
  exact h _ (List.getElem_mem hk)
set_option maxRecDepth 20000 in
set_option maxHeartbeats 4000000 in
theorem requal_any (oA mA : Int) (nA : Bool) (l : List (Int × Int)) (oB mB : Int) (nB : Bool) (m : List (Int × Int)) (v u : Value) (w : World) (hv : RowsOf 2 SpanC w v l) (hu : RowsOf 2 SpanC w u m) (hwA : RelWf ⟨oA, mA, nA, l⟩) (hwB : RelWf ⟨oB, mB, nB, m⟩) :
    Calls Tryz.prog 186 #[.agg #[.int .i64 oA, .int .i64 mA, .bool nA, v], .agg #[.int .i64 oB, .int .i64 mB, .bool nB, u]] w fun e w' => e = .returned (.bool (eqB (⟨oA, mA, nA, l⟩ : Rel) ⟨oB, mB, nB, m⟩)) ∧ Below w.heap.size w w' := by
  obtain ⟨adA, cA, fA, bA, offA, rfl, hrA, hnA, hcA, hmA, hCA⟩ := hv.opn
  obtain ⟨adB, cB, fB, bB, offB, rfl, hrB, hnB, hcB, hmB, hCB⟩ := hu.opn
  have HWA : Hid (∀ k, k < l.length → W6i (l.getD k (0, 0)).1 ∧ W6i (l.getD k (0, 0)).2) := fun k hk => hwA.at hk
  have HWB : Hid (∀ k, k < m.length → W6i (m.getD k (0, 0)).1 ∧ W6i (m.getD k (0, 0)).2) := fun k hk => hwB.at hk
  clear hwA hwB
  have HLE : Hid (l.length ≠ m.length → eqB (⟨oA, mA, nA, l⟩ : Rel) ⟨oB, mB, nB, m⟩ = false) := fun h => eqB_no (fun e => h (by injection e with _ _ _ e; rw [e]))
  have HOE : Hid (oA ≠ oB → eqB (⟨oA, mA, nA, l⟩ : Rel) ⟨oB, mB, nB, m⟩ = false) := fun h => eqB_no (fun e => h (by injection e))
  have HME : Hid (mA ≠ mB → eqB (⟨oA, mA, nA, l⟩ : Rel) ⟨oB, mB, nB, m⟩ = false) := fun h => eqB_no (fun e => h (by injection e))
  have HBE : Hid (nA ≠ nB → eqB (⟨oA, mA, nA, l⟩ : Rel) ⟨oB, mB, nB, m⟩ = false) := fun h => eqB_no (fun e => h (by injection e))
  have HNO : Hid (l ≠ m → eqB (⟨oA, mA, nA, l⟩ : Rel) ⟨oB, mB, nB, m⟩ = false) := fun h => eqB_no (fun e => h (by injection e))
  have HYS : Hid ((oA = oB ∧ mA = mB ∧ nA = nB) → l.length = m.length → (∀ j, j < l.length → l.getD j (0, 0) = m.getD j (0, 0)) → eqB (⟨oA, mA, nA, l⟩ : Rel) ⟨oB, mB, nB, m⟩ = true) := fun h1 h2 h3 => eqB_yes (by rw [h1.1, h1.2.1, h1.2.2, list_getD h2 h3])
  generalize eqB (⟨oA, mA, nA, l⟩ : Rel) ⟨oB, mB, nB, m⟩ = res at *
  have HRA := Lib.hid hrA
  have HRB := Lib.hid hrB
  have HCA := Lib.hid hCA
  have HCB := Lib.hid hCB
  obtain ⟨n, hn⟩ : ∃ n, l.length = n := ⟨_, rfl⟩
  obtain ⟨n', hn'⟩ : ∃ n, m.length = n := ⟨_, rfl⟩
  clear hrA hrB hnA hnB hCA hCB hv hu
  have HLA := Lib.hid hn
  have HLB := Lib.hid hn'
  rw [hn] at HRA hcA hmA ⊢
  rw [hn'] at HRB hcB hmB ⊢
  clear hn hn'
  rw [HLA.out, HLB.out] at HLE HYS
  have HB2 : Hid (Below w.heap.size w ((w.alloc (.cells #[.int .i64 oA, .int .i64 mA, .bool nA, .slice adA n cA] 94)).alloc (.cells #[.int .i64 oB, .int .i64 mB, .bool nB, .slice adB n' cB] 94))) := Bel.alloc (Bel.alloc (Bel.refl w) _) _
  have HX : Hid (Cel ((w.alloc (.cells #[.int .i64 oA, .int .i64 mA, .bool nA, .slice adA n cA] 94)).alloc (.cells #[.int .i64 oB, .int .i64 mB, .bool nB, .slice adB n' cB] 94)) w.heap.size 94 [.int .i64 oA, .int .i64 mA, .bool nA, .slice adA n cA]) := (Cel.new w [.int .i64 oA, .int .i64 mA, .bool nA, .slice adA n cA] 94).below (Bel.alloc (Bel.refl _) _)
  have HY : Hid (Cel ((w.alloc (.cells #[.int .i64 oA, .int .i64 mA, .bool nA, .slice adA n cA] 94)).alloc (.cells #[.int .i64 oB, .int .i64 mB, .bool nB, .slice adB n' cB] 94)) (w.heap.size + 1) 94 [.int .i64 oB, .int .i64 mB, .bool nB, .slice adB n' cB]) := by
    have := Cel.new (w.alloc (.cells #[.int .i64 oA, .int .i64 mA, .bool nA, .slice adA n cA] 94)) [.int .i64 oB, .int .i64 mB, .bool nB, .slice adB n' cB] 94
    rwa [show (w.alloc (.cells #[.int .i64 oA, .int .i64 mA, .bool nA, .slice adA n cA] 94)).heap.size = w.heap.size + 1 by simp] at this
  go_enter Tryz.func186, Tryz.ntmps186
  go_upto_region 1 with (fail)
  generalize (w.alloc (.cells #[.int .i64 oA, .int .i64 mA, .bool nA, .slice adA n cA] 94)).alloc (.cells #[.int .i64 oB, .int .i64 mB, .bool nB, .slice adB n' cB] 94) = w2 at *
  have x0 := HX.out.cell 0
  have x1 := HX.out.cell 1
  have x2 := HX.out.cell 2
  have x3 := HX.out.cell 3
  have y0 := HY.out.cell 0
  have y1 := HY.out.cell 1
  have y2 := HY.out.cell 2
  have y3 := HY.out.cell 3
  simp only [List.getElem?_cons_zero, List.getElem?_cons_succ] at x0 x1 x2 x3 y0 y1 y2 y3
  by_cases ho : oA = oB
  · by_cases hm : mA = mB
    · by_cases hb : nA = nB
      · by_cases hn : n = n'
        · subst hn
          have HYES : Hid ((∀ j, j < n → l.getD j (0, 0) = m.getD j (0, 0)) → res = true) := HYS.out ⟨ho, hm, hb⟩ rfl
          subst ho hm hb
          have q0 : (oA != oA) = false := by simp
          have q1 : (mA != mA) = false := by simp
          have q2 : (nA != nA) = false := by simp
          have q3 : ((n : Int) != (n : Int)) = false := by simp
          clear HYS HLE HOE HME HBE
          go_wp2_with fail
          go_loopw [5] (fun i wr => ∃ k : Nat, i = .int .i64 (k : Int) ∧ k ≤ n ∧ (∀ j, j < k → l.getD j (0, 0) = m.getD j (0, 0)) ∧ Below w2.heap.size w2 wr) (fun i _ => n - (intOf i).toNat)
          case atStart => exact ⟨0, rfl, Nat.zero_le _, fun i hi => absurd hi (Nat.not_lt_zero _), Below.refl _ _⟩
          case round =>
            obtain ⟨k, rfl, hkn, hal, hbl⟩ := hrel
            have HAL := Lib.hid hal
            have HBL := Lib.hid hbl
            have hzr := hbl.size
            have HBw := Lib.hid (HB2.out.trans (hbl.mono HB2.out.size))
            clear hal hbl
            have X3 := (HX.out.below HBL.out).cell 3
            have Y3 := (HY.out.below HBL.out).cell 3
            simp only [List.getElem?_cons_zero, List.getElem?_cons_succ] at X3 Y3
            by_cases hlt : k < n
            · have hltA := hlt
              have hltB := hlt
              have gA := HRA.out.below HBw.out
              have ixA := fun W => gA.ix (P := Tryz.prog) 92 152 Tryz.underlying92 cellsSpanP (by decide) hltA cA W
              have eA0 := gA.cell k 0 hltA (by decide)
              have eA1 := gA.cell k 1 hltA (by decide)
              clear gA
              have gB := HRB.out.below HBw.out
              have ixB := fun W => gB.ix (P := Tryz.prog) 92 152 Tryz.underlying92 cellsSpanP (by decide) hltB cB W
              have eB0 := gB.cell k 0 hltB (by decide)
              have eB1 := gB.cell k 1 hltB (by decide)
              clear gB
              have hkA : k < l.length := by rw [HLA.out]; exact hlt
              have hkB : k < m.length := by rw [HLB.out]; exact hlt
              have HNX : Hid (l.getD k (0, 0) = m.getD k (0, 0) → ∀ j, j < k + 1 → l.getD j (0, 0) = m.getD j (0, 0)) := fun h j hj => by
                rcases Nat.lt_or_ge j k with h' | h'
                · exact HAL.out j h'
                · rw [show j = k by omega]; exact h
              have HNE : Hid (l.getD k (0, 0) ≠ m.getD k (0, 0) → res = false) := fun h => HNO.out (getD_ne h)
              rw [(HCA.out k hkA).1, getD_of l (0, 0) hkA] at eA0
              rw [(HCA.out k hkA).2, getD_of l (0, 0) hkA] at eA1
              rw [(HCB.out k hkB).1, getD_of m (0, 0) hkB] at eB0
              rw [(HCB.out k hkB).2, getD_of m (0, 0) hkB] at eB1
              have hwA := HWA.out k hkA
              have hwB := HWB.out k hkB
              simp only [Nat.add_zero] at eA0 eB0
              generalize l.getD k (0, 0) = x at *
              generalize m.getD k (0, 0) = y at *
              obtain ⟨xa, xb⟩ := x
              obtain ⟨ya, yb⟩ := y
              simp only at eA0 eA1 eB0 eB1 hwA hwB
              have hq := fun W => eq_SpanP xa xb ya yb W hwA.1 hwA.2 hwB.1 hwB.2
              clear hltA hltB hkA hkB hwA hwB
              by_cases hxy : xa = ya ∧ xb = yb
              · rw [decide_eq_true hxy] at hq
                have HN := Lib.hid (HNX.out (by rw [hxy.1, hxy.2]))
                clear HNX HNE hxy
                go_wp2_with fail
                go_quiet (fail)
                go_wp2_with fail
                go_roundw
                case rel => exact ⟨k + 1, by go_num, by omega, HN.out, HBL.out.trans ((below_drewN _ _).mono hzr)⟩
                case measure => simp [intOf]; omega
              · rw [decide_eq_false hxy] at hq
                have HN := Lib.hid (HNE.out (fun e => hxy (by injection e with e1 e2; exact ⟨e1, e2⟩)))
                clear HNX HNE hxy
                go_wp2_with fail
                go_quiet (fail)
                go_wp2_with fail
                go_ret
                exact ⟨by rw [HN.out]; rfl, HBw.out.trans ((below_drewN _ _).mono (Nat.le_trans HB2.out.size hzr))⟩
            · obtain rfl : k = n := by omega
              have HS := Lib.hid (HYES.out HAL.out)
              go_wp2_with fail
              go_ret
              exact ⟨by rw [HS.out]; rfl, HBw.out⟩
        · have HN := Lib.hid (HLE.out hn)
          have q3 : ((n : Int) != (n' : Int)) = true := by simp only [bne_iff_ne]; omega
          have q3' : ¬ ((n : Int) = (n' : Int)) := by omega
          subst ho hm hb
          have q0 : (oA != oA) = false := by simp
          have q1 : (mA != mA) = false := by simp
          have q2 : (nA != nA) = false := by simp
          go_wp2_with fail
          go_ret
          exact ⟨by rw [HN.out]; rfl, HB2.out⟩
      · have HN := Lib.hid (HBE.out hb)
        have q2 : (nA != nB) = true := by simpa using hb
        subst ho hm
        have q0 : (oA != oA) = false := by simp
        have q1 : (mA != mA) = false := by simp
        go_wp2_with fail
        go_ret
        exact ⟨by rw [HN.out]; rfl, HB2.out⟩
    · have HN := Lib.hid (HME.out hm)
      have q1 : (mA != mB) = true := by simpa using hm
      subst ho
      have q0 : (oA != oA) = false := by simp
      go_wp2_with fail
      go_ret
      exact ⟨by rw [HN.out]; rfl, HB2.out⟩
  · have HN := Lib.hid (HOE.out ho)
    have q0 : (oA != oB) = true := by simpa using ho
    go_wp2_with fail
    go_ret
    exact ⟨by rw [HN.out]; rfl, HB2.out⟩
end Go.Proofs.YtmleeodfmmpdgaaGreatDoor
/- Walks: the reference's equality of conditions, of rules. -/
namespace Go.Proofs.YtmleeodfmmpdgaaGreatDoor
open Go.RowKit
attribute [local go_sem] Ext.cell Ext.frozen
attribute [local go_sem ↓] Go.wp_at_zero Go.wp_at_succ
instance : Inhabited Rel := ⟨⟨0, 0, false, []⟩⟩
def CondWf (c : List (List Rel)) : Prop := ∀ l ∈ c, ∀ r ∈ l, RelWf r
theorem CondWf.at {c : List (List Rel)} (h : CondWf c) {k : Nat} (hk : k < c.length) : ∀ r ∈ c.getD k [], RelWf r := by
  rw [← getD_of c [] hk]
  exact h _ (List.getElem_mem hk)
theorem rels_at {l : List Rel} (h : ∀ r ∈ l, RelWf r) {k : Nat} (hk : k < l.length) : RelWf (l.getD k default) := by
  rw [← getD_of l default hk]
  exact h _ (List.getElem_mem hk)
theorem cellsRelE : Tryz.prog.cellsOf 94 = 4 := by kernel_rfl
theorem cellsRelsE : Tryz.prog.cellsOf 91 = 1 := by kernel_rfl
theorem cellsRuleE : Tryz.prog.cellsOf 51 = 2 := by kernel_rfl
set_option maxRecDepth 20000 in
set_option maxHeartbeats 4000000 in
theorem rEqual08_any (l m : List (List Rel)) (v u : Value) (w : World) (hv : CondAt w v l) (hu : CondAt w u m) (hwA : CondWf l) (hwB : CondWf m) :
    Calls Tryz.prog 133 #[v, u] w fun e w' => e = .returned (.bool (eqB l m)) ∧ Below w.heap.size w w' := by
  unfold CondAt at hv hu
  obtain ⟨adA, cA, fA, bA, offA, rfl, hrA, hnA, hcA, hmA, hCA⟩ := hv.opn
  obtain ⟨adB, cB, fB, bB, offB, rfl, hrB, hnB, hcB, hmB, hCB⟩ := hu.opn
  have HWA := Lib.hid (fun k (hk : k < l.length) => hwA.at hk)
  have HWB := Lib.hid (fun k (hk : k < m.length) => hwB.at hk)
  clear hwA hwB
  have HLE : Hid (l.length ≠ m.length → eqB l m = false) := fun h => eqB_no (fun e => h (by rw [e]))
  have HNO : Hid (l ≠ m → eqB l m = false) := fun h => eqB_no h
  have HYS : Hid (l.length = m.length → (∀ j, j < l.length → l.getD j [] = m.getD j []) → eqB l m = true) := fun h2 h3 => eqB_yes (list_getD h2 h3)
  generalize eqB l m = res at *
  have HRA := Lib.hid hrA
  have HRB := Lib.hid hrB
  have HCA := Lib.hid hCA
  have HCB := Lib.hid hCB
  obtain ⟨n, hn⟩ : ∃ n, l.length = n := ⟨_, rfl⟩
  obtain ⟨n', hn'⟩ : ∃ n, m.length = n := ⟨_, rfl⟩
  clear hrA hrB hnA hnB hCA hCB hv hu
  have HLA := Lib.hid hn
  have HLB := Lib.hid hn'
  rw [hn] at HRA hcA hmA ⊢
  rw [hn'] at HRB hcB hmB ⊢
  clear hn hn'
  rw [HLA.out, HLB.out] at HLE HYS
  by_cases hn : n = n'
  · subst hn
    have HYES : Hid ((∀ j, j < n → l.getD j [] = m.getD j []) → res = true) := HYS.out rfl
    clear HYS HLE
    go_enter Tryz.func133, Tryz.ntmps133
    go_wp2_with fail
    go_loopw [5] (fun i wr => ∃ k : Nat, i = .int .i64 (k : Int) ∧ k ≤ n ∧ (∀ j, j < k → l.getD j [] = m.getD j []) ∧ Below w.heap.size w wr) (fun i _ => n - (intOf i).toNat)
    case atStart => exact ⟨0, rfl, Nat.zero_le _, fun i hi => absurd hi (Nat.not_lt_zero _), Below.refl _ _⟩
    case round =>
      obtain ⟨k, rfl, hkn, hal, hbl⟩ := hrel
      have HAL := Lib.hid hal
      have HBL := Lib.hid hbl
      have hzr := hbl.size
      clear hal hbl
      by_cases hlt : k < n
      · have hkA : k < l.length := by rw [HLA.out]; exact hlt
        have hkB : k < m.length := by rw [HLB.out]; exact hlt
        have HNX : Hid (l.getD k [] = m.getD k [] → ∀ j, j < k + 1 → l.getD j [] = m.getD j []) := fun h j hj => by
          rcases Nat.lt_or_ge j k with h' | h'
          · exact HAL.out j h'
          · rw [show j = k by omega]; exact h
        have HNE : Hid (l.getD k [] ≠ m.getD k [] → res = false) := fun h => HNO.out (getD_ne h)
        have hA := HCA.out k hkA
        have hB := HCB.out k hkB
        have HWI := Lib.hid (HWA.out k hkA)
        have HWJ := Lib.hid (HWB.out k hkB)
        rw [getD_of l [] hkA] at hA
        rw [getD_of m [] hkB] at hB
        generalize l.getD k [] = lk at *
        generalize m.getD k [] = mk at *
        clear hkA hkB
        unfold RelsC at hA hB
        obtain ⟨adI, cI, fI, bI, offI, HVA, hrI, _, hcI, hmI, hCI⟩ := hA.opn
        obtain ⟨adJ, cJ, fJ, bJ, offJ, HVB, hrJ, _, hcJ, hmJ, hCJ⟩ := hB.opn
        have HCI := Lib.hid hCI
        have HCJ := Lib.hid hCJ
        have HRI := Lib.hid hrI
        have HRJ := Lib.hid hrJ
        obtain ⟨p, hp⟩ : ∃ p, lk.length = p := ⟨_, rfl⟩
        obtain ⟨p', hp'⟩ : ∃ p, mk.length = p := ⟨_, rfl⟩
        have HPA := Lib.hid hp
        have HPB := Lib.hid hp'
        rw [hp] at HVA HRI hcI hmI
        rw [hp'] at HVB HRJ hcJ hmJ
        have HVA := Lib.hid HVA
        have HVB := Lib.hid HVB
        clear hp hp' hA hB hrI hrJ hCI hCJ
        have gA := HRA.out.below HBL.out
        have ixA := fun W => gA.ix (P := Tryz.prog) 48 91 Tryz.underlying48 cellsRelsE (by decide) hlt cA W
        have blA := gA.block (by omega) (by decide)
        have eA0 := gA.cell k 0 hlt (by decide)
        clear gA
        have gB := HRB.out.below HBL.out
        have ixB := fun W => gB.ix (P := Tryz.prog) 48 91 Tryz.underlying48 cellsRelsE (by decide) hlt cB W
        have blB := gB.block (by omega) (by decide)
        have eB0 := gB.cell k 0 hlt (by decide)
        clear gB
        rw [HVA.out] at eA0
        rw [HVB.out] at eB0
        simp only [Nat.mul_one, Nat.add_zero] at eA0 eB0 ixA ixB
        by_cases hpp : p = p'
        · subst hpp
          have q3 : ((p : Int) != (p : Int)) = false := by simp
          have HSAME : Hid ((∀ j, j < p → lk.getD j default = mk.getD j default) → lk = mk) := fun h => list_getD (by rw [HPA.out, HPB.out]) (fun j hj => h j (by rw [HPA.out] at hj; exact hj))
          go_wp2_with fail
          go_quiet (fail)
          have HB1 : Hid (∀ n, Below w.heap.size w (wr.drewN n)) := fun n => HBL.out.trans ((below_drewN _ _).mono hzr)
          clear eA0 eB0 ixA ixB blA blB
          go_wp2_with fail
          go_loopw [6] (fun i wx => ∃ q : Nat, i = .int .i64 (q : Int) ∧ q ≤ p ∧ (∀ j, j < q → lk.getD j default = mk.getD j default) ∧ Below w.heap.size w wx) (fun i _ => p - (intOf i).toNat)
          case atStart => exact ⟨0, rfl, Nat.zero_le _, fun i hi => absurd hi (Nat.not_lt_zero _), HB1.out _⟩
          case round =>
            obtain ⟨q, rfl, hqn, hal2, hbl2⟩ := hrel
            have HAL2 := Lib.hid hal2
            have HBX := Lib.hid hbl2
            have hzx := hbl2.size
            clear hal2 hbl2
            have gA := HRA.out.below HBX.out
            have ixA := fun W => gA.ix (P := Tryz.prog) 48 91 Tryz.underlying48 cellsRelsE (by decide) hlt cA W
            have blA := gA.block (by omega) (by decide)
            have eA0 := gA.cell k 0 hlt (by decide)
            clear gA
            have gB := HRB.out.below HBX.out
            have ixB := fun W => gB.ix (P := Tryz.prog) 48 91 Tryz.underlying48 cellsRelsE (by decide) hlt cB W
            have blB := gB.block (by omega) (by decide)
            have eB0 := gB.cell k 0 hlt (by decide)
            clear gB
            rw [HVA.out] at eA0
            rw [HVB.out] at eB0
            simp only [Nat.mul_one, Nat.add_zero] at eA0 eB0 ixA ixB
            by_cases hq : q < p
            · have hqA : q < lk.length := by rw [HPA.out]; exact hq
              have hqB : q < mk.length := by rw [HPB.out]; exact hq
              have gI := HRI.out.below HBX.out
              have gJ := HRJ.out.below HBX.out
              have ixI := fun W => gI.ix (P := Tryz.prog) 91 94 Tryz.underlying91 cellsRelE (by decide) hq cI W
              have ixJ := fun W => gJ.ix (P := Tryz.prog) 91 94 Tryz.underlying91 cellsRelE (by decide) hq cJ W
              have blI := gI.block (by omega) (by decide)
              have blJ := gJ.block (by omega) (by decide)
              have i0 := gI.cell q 0 hq (by decide)
              have i1 := gI.cell q 1 hq (by decide)
              have i2 := gI.cell q 2 hq (by decide)
              have i3 := gI.cell q 3 hq (by decide)
              have j0 := gJ.cell q 0 hq (by decide)
              have j1 := gJ.cell q 1 hq (by decide)
              have j2 := gJ.cell q 2 hq (by decide)
              have j3 := gJ.cell q 3 hq (by decide)
              clear gI gJ
              have hcI := HCI.out q hqA
              have hcJ := HCJ.out q hqB
              have hwI := rels_at (HWI.out) hqA
              have hwJ := rels_at (HWJ.out) hqB
              rw [getD_of lk default hqA] at hcI
              rw [getD_of mk default hqB] at hcJ
              have HNX2 : Hid (lk.getD q default = mk.getD q default → ∀ j, j < q + 1 → lk.getD j default = mk.getD j default) := fun h j hj => by
                rcases Nat.lt_or_ge j q with h' | h'
                · exact HAL2.out j h'
                · rw [show j = q by omega]; exact h
              have HNE2 : Hid (lk.getD q default ≠ mk.getD q default → res = false) := fun h => HNE.out (getD_ne h)
              generalize lk.getD q default = x at *
              generalize mk.getD q default = y at *
              obtain ⟨xo, xm, xn, xs⟩ := x
              obtain ⟨yo, ym, yn, ys⟩ := y
              obtain ⟨a0, a1, a2, a3⟩ := hcI
              obtain ⟨b0, b1, b2, b3⟩ := hcJ
              simp only at a0 a1 a2 a3 b0 b1 b2 b3
              rw [a0] at i0
              rw [a1] at i1
              rw [a2] at i2
              rw [b0] at j0
              rw [b1] at j1
              rw [b2] at j2
              have HCALL : Hid (∀ W, Below wr.heap.size wr W → Calls Tryz.prog 186 #[.agg #[.int .i64 xo, .int .i64 xm, .bool xn, fI q 3], .agg #[.int .i64 yo, .int .i64 ym, .bool yn, fJ q 3]] W fun e w' => e = .returned (.bool (eqB (⟨xo, xm, xn, xs⟩ : Rel) ⟨yo, ym, yn, ys⟩)) ∧ Below W.heap.size W w') := fun W hW =>
                requal_any xo xm xn xs yo ym yn ys _ _ W (a3.map (HBX.out.trans (hW.mono hzx)) fun _ _ h => h) (b3.map (HBX.out.trans (hW.mono hzx)) fun _ _ h => h) hwI hwJ
              generalize fI q 3 = VI at *
              generalize fJ q 3 = VJ at *
              simp only [Nat.add_zero] at i0 j0
              clear a0 a1 a2 a3 b0 b1 b2 b3 hwI hwJ hqA hqB
              have HN1 : Hid (eqB (⟨xo, xm, xn, xs⟩ : Rel) ⟨yo, ym, yn, ys⟩ = true → ∀ j, j < q + 1 → lk.getD j default = mk.getD j default) := fun h => HNX2.out (eqB_iff.1 h)
              have HN0 : Hid (eqB (⟨xo, xm, xn, xs⟩ : Rel) ⟨yo, ym, yn, ys⟩ = false → res = false) := fun h => HNE2.out (fun e => by rw [eqB_yes e] at h; cases h)
              generalize eqB (⟨xo, xm, xn, xs⟩ : Rel) ⟨yo, ym, yn, ys⟩ = ans at *
              clear HNX2 HNE2
              go_wp2_with fail
              refine wp_region_ext (by kernel_rfl) (by kernel_rfl) ?_
              repeat (go_big_quiet_step ((go_at_call 186; refine Calls.ext (HCALL.out _ ?_); exact Subtype.property _)))
              refine wpQuiet_nil ?_
              intro _ hw'
              obtain ⟨X9, hw''⟩ := hw'
              subst hw''
              have HBE := Lib.hid (HBX.out.trans (X9.2.mono hzx))
              cases ans with
              | true =>
                have HN := Lib.hid (HN1.out rfl)
                go_wp2_with fail
                go_roundw
                case rel => exact ⟨q + 1, by go_num, by omega, HN.out, HBE.out⟩
                case measure => simp [intOf]; omega
              | false =>
                have HN := Lib.hid (HN0.out rfl)
                go_wp2_with fail
                go_ret
                exact ⟨by rw [HN.out]; rfl, HBE.out⟩
            · obtain rfl : q = p := by omega
              have HN := Lib.hid (HNX.out (HSAME.out HAL2.out))
              go_wp2_with fail
              go_roundw
              case rel => exact ⟨k + 1, by go_num, by omega, HN.out, HBX.out⟩
              case measure => simp [intOf]; omega
        · have HN := Lib.hid (HNE.out (fun e => hpp (by rw [← HPA.out, ← HPB.out, e])))
          have q3 : ((p : Int) != (p' : Int)) = true := by simp only [bne_iff_ne]; omega
          go_wp2_with fail
          go_quiet (fail)
          go_wp2_with fail
          go_ret
          exact ⟨by rw [HN.out]; rfl, HBL.out.trans ((below_drewN _ _).mono hzr)⟩
      · obtain rfl : k = n := by omega
        have HS := Lib.hid (HYES.out HAL.out)
        go_wp2_with fail
        go_ret
        exact ⟨by rw [HS.out]; rfl, HBL.out⟩
  · have HN := Lib.hid (HLE.out hn)
    have q3 : ((n : Int) != (n' : Int)) = true := by simp only [bne_iff_ne]; omega
    go_enter Tryz.func133, Tryz.ntmps133
    go_wp2_with fail
    go_ret
    exact ⟨by rw [HN.out]; rfl, Below.refl _ _⟩
end Go.Proofs.YtmleeodfmmpdgaaGreatDoor
/- Walks: the reference's equality of rules. -/
namespace Go.Proofs.YtmleeodfmmpdgaaGreatDoor
open Go.RowKit
attribute [local go_sem] Ext.cell Ext.frozen
attribute [local go_sem ↓] Go.wp_at_zero Go.wp_at_succ
def RulesWf (l : List (ByteArray × List (List Rel))) : Prop := ∀ r ∈ l, CondWf r.2
theorem RulesWf.at {l : List (ByteArray × List (List Rel))} (h : RulesWf l) {k : Nat} (hk : k < l.length) : CondWf (l.getD k (.empty, [])).2 := by
  rw [← getD_of l (.empty, []) hk]
  exact h _ (List.getElem_mem hk)
set_option maxRecDepth 20000 in
set_option maxHeartbeats 4000000 in
theorem rsameRules_any (l m : List (ByteArray × List (List Rel))) (v u : Value) (w : World) (hv : RulesAt w v l) (hu : RulesAt w u m) (hwA : RulesWf l) (hwB : RulesWf m) :
    Calls Tryz.prog 76 #[v, u] w fun e w' => e = .returned (.bool (eqB l m)) ∧ Below w.heap.size w w' := by
  unfold RulesAt at hv hu
  obtain ⟨adA, cA, fA, bA, offA, rfl, hrA, hnA, hcA, hmA, hCA⟩ := hv.opn
  obtain ⟨adB, cB, fB, bB, offB, rfl, hrB, hnB, hcB, hmB, hCB⟩ := hu.opn
  have HWA := Lib.hid (fun k (hk : k < l.length) => hwA.at hk)
  have HWB := Lib.hid (fun k (hk : k < m.length) => hwB.at hk)
  clear hwA hwB
  have HLE : Hid (l.length ≠ m.length → eqB l m = false) := fun h => eqB_no (fun e => h (by rw [e]))
  have HNO : Hid (l ≠ m → eqB l m = false) := fun h => eqB_no h
  have HYS : Hid (l.length = m.length → (∀ j, j < l.length → l.getD j (.empty, []) = m.getD j (.empty, [])) → eqB l m = true) := fun h2 h3 => eqB_yes (list_getD h2 h3)
  generalize eqB l m = res at *
  have HRA := Lib.hid hrA
  have HRB := Lib.hid hrB
  have HCA := Lib.hid hCA
  have HCB := Lib.hid hCB
  obtain ⟨n, hn⟩ : ∃ n, l.length = n := ⟨_, rfl⟩
  obtain ⟨n', hn'⟩ : ∃ n, m.length = n := ⟨_, rfl⟩
  clear hrA hrB hnA hnB hCA hCB hv hu
  have HLA := Lib.hid hn
  have HLB := Lib.hid hn'
  rw [hn] at HRA hcA hmA ⊢
  rw [hn'] at HRB hcB hmB ⊢
  clear hn hn'
  rw [HLA.out, HLB.out] at HLE HYS
  by_cases hn : n = n'
  · subst hn
    have HYES : Hid ((∀ j, j < n → l.getD j (.empty, []) = m.getD j (.empty, [])) → res = true) := HYS.out rfl
    clear HYS HLE
    go_enter Tryz.func76, Tryz.ntmps76
    go_wp2_with fail
    go_loopw [5] (fun i wr => ∃ k : Nat, i = .int .i64 (k : Int) ∧ k ≤ n ∧ (∀ j, j < k → l.getD j (.empty, []) = m.getD j (.empty, [])) ∧ Below w.heap.size w wr) (fun i _ => n - (intOf i).toNat)
    case atStart => exact ⟨0, rfl, Nat.zero_le _, fun i hi => absurd hi (Nat.not_lt_zero _), Below.refl _ _⟩
    case round =>
      obtain ⟨k, rfl, hkn, hal, hbl⟩ := hrel
      have HAL := Lib.hid hal
      have HBL := Lib.hid hbl
      have hzr := hbl.size
      clear hal hbl
      by_cases hlt : k < n
      · have hkA : k < l.length := by rw [HLA.out]; exact hlt
        have hkB : k < m.length := by rw [HLB.out]; exact hlt
        have HNX : Hid (l.getD k (.empty, []) = m.getD k (.empty, []) → ∀ j, j < k + 1 → l.getD j (.empty, []) = m.getD j (.empty, [])) := fun h j hj => by
          rcases Nat.lt_or_ge j k with h' | h'
          · exact HAL.out j h'
          · rw [show j = k by omega]; exact h
        have HNE : Hid (l.getD k (.empty, []) ≠ m.getD k (.empty, []) → res = false) := fun h => HNO.out (getD_ne h)
        have hA := HCA.out k hkA
        have hB := HCB.out k hkB
        have hwI := HWA.out k hkA
        have hwJ := HWB.out k hkB
        rw [getD_of l (.empty, []) hkA] at hA
        rw [getD_of m (.empty, []) hkB] at hB
        generalize l.getD k (.empty, []) = x at *
        generalize m.getD k (.empty, []) = y at *
        obtain ⟨xs, xc⟩ := x
        obtain ⟨ys, yc⟩ := y
        obtain ⟨hA0, hA1⟩ := hA
        obtain ⟨hB0, hB1⟩ := hB
        simp only at hA0 hA1 hB0 hB1 hwI hwJ
        clear hkA hkB
        have gA := HRA.out.below HBL.out
        have ixA := fun W => gA.ix (P := Tryz.prog) 38 51 Tryz.underlying38 cellsRuleE (by decide) hlt cA W
        have blA := gA.block (by omega) (by decide)
        have eA0 := gA.cell k 0 hlt (by decide)
        have eA1 := gA.cell k 1 hlt (by decide)
        clear gA
        have gB := HRB.out.below HBL.out
        have ixB := fun W => gB.ix (P := Tryz.prog) 38 51 Tryz.underlying38 cellsRuleE (by decide) hlt cB W
        have blB := gB.block (by omega) (by decide)
        have eB0 := gB.cell k 0 hlt (by decide)
        have eB1 := gB.cell k 1 hlt (by decide)
        clear gB
        rw [hA0] at eA0
        rw [hB0] at eB0
        have HCALL : Hid (∀ W, Below wr.heap.size wr W → Calls Tryz.prog 133 #[fA k 1, fB k 1] W fun e w' => e = .returned (.bool (eqB xc yc)) ∧ Below W.heap.size W w') := fun W hW =>
          rEqual08_any xc yc _ _ W (CondAt.below hA1 (HBL.out.trans (hW.mono hzr))) (CondAt.below hB1 (HBL.out.trans (hW.mono hzr))) hwI hwJ
        generalize fA k 1 = VI at *
        generalize fB k 1 = VJ at *
        simp only [Nat.add_zero] at eA0 eB0
        clear hA0 hA1 hB0 hB1 hwI hwJ
        by_cases hs : xs = ys
        · subst hs
          have m1 : (xs.toList != xs.toList) = false := by simp
          have HN1 : Hid (eqB xc yc = true → ∀ j, j < k + 1 → l.getD j (.empty, []) = m.getD j (.empty, [])) := fun h => HNX.out (by rw [eqB_iff.1 h])
          have HN0 : Hid (eqB xc yc = false → res = false) := fun h => HNE.out (fun e => by
            injection e with _ e
            rw [eqB_yes e] at h; cases h)
          generalize eqB xc yc = ans at *
          clear HNX HNE
          go_wp2_with fail
          refine wp_region_ext (by kernel_rfl) (by kernel_rfl) ?_
          repeat (go_big_quiet_step ((go_at_call 133; refine Calls.ext (HCALL.out _ ?_); exact Subtype.property _)))
          refine wpQuiet_nil ?_
          intro _ hw'
          obtain ⟨X9, hw''⟩ := hw'
          subst hw''
          have HBE := Lib.hid (HBL.out.trans (X9.2.mono hzr))
          cases ans with
          | true =>
            have HN := Lib.hid (HN1.out rfl)
            go_wp2_with fail
            go_roundw
            case rel => exact ⟨k + 1, by go_num, by omega, HN.out, HBE.out⟩
            case measure => simp [intOf]; omega
          | false =>
            have HN := Lib.hid (HN0.out rfl)
            go_wp2_with fail
            go_ret
            exact ⟨by rw [HN.out]; rfl, HBE.out⟩
        · have HN := Lib.hid (HNE.out (fun e => hs (by injection e)))
          have hd1 : (xs.toList == ys.toList) = false := by rw [dec_toList, decide_eq_false hs]
          have hd2 : (xs.toList != ys.toList) = true := by unfold bne; rw [hd1]; rfl
          clear HNX HNE HCALL
          go_wp2_with fail
          refine wp_region_ext (by kernel_rfl) (by kernel_rfl) ?_
          repeat (go_big_quiet_step (fail))
          refine wpQuiet_nil ?_
          intro _ hw'
          obtain ⟨X9, hw''⟩ := hw'
          subst hw''
          have HBE := Lib.hid (HBL.out.trans (X9.2.mono hzr))
          go_wp2_with fail
          go_ret
          exact ⟨by rw [HN.out]; rfl, HBE.out⟩
      · obtain rfl : k = n := by omega
        have HS := Lib.hid (HYES.out HAL.out)
        go_wp2_with fail
        go_ret
        exact ⟨by rw [HS.out]; rfl, HBL.out⟩
  · have HN := Lib.hid (HLE.out hn)
    have q3 : ((n : Int) != (n' : Int)) = true := by simp only [bne_iff_ne]; omega
    go_enter Tryz.func76, Tryz.ntmps76
    go_wp2_with fail
    go_ret
    exact ⟨by rw [HN.out]; rfl, Below.refl _ _⟩
end Go.Proofs.YtmleeodfmmpdgaaGreatDoor
