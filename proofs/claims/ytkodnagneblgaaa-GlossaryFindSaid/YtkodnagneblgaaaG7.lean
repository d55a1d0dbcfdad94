/- Walks: GlossaryFind, second part. -/
import Derived.Test.YtkodnagneblgaaaG6
import Derived.Test.YtkodnagneblgaaaG5B
namespace Go.Proofs.Ytkodnagneblgaaa
open Go.RowKit Go.Maps Go.Sort
attribute [local go_sem] Ext.cell Ext.frozen
attribute [local go_sem ↓] Go.wp_at_zero Go.wp_at_succ
/-- what is known of the i-th place -/
def PlK (lists : List (List ByteArray)) (ws : List ByteArray) (fl : List (Nat × Nat)) : Prop :=
  (∀ i, i < fl.length → (fl.getD i (0, 0)).1 < lists.length ∧ (fl.getD i (0, 0)).2 + lnW lists (fl.getD i (0, 0)).1 ≤ ws.length ∧ lists.getD (fl.getD i (0, 0)).1 [] = (ws.drop (fl.getD i (0, 0)).2).take (lnW lists (fl.getD i (0, 0)).1) ∧ 0 < lnW lists (fl.getD i (0, 0)).1) ∧
  (∀ i j, i < j → j < fl.length → (fl.getD i (0, 0)).2 + lnW lists (fl.getD i (0, 0)).1 ≤ (fl.getD j (0, 0)).2)
theorem plK (lists : List (List ByteArray)) (ws : List ByteArray) : PlK lists ws (findL lists ws) := by
  refine ⟨fun i hi => ?_, fun i j hij hj => ?_⟩
  · obtain ⟨h1, _, h2, h3, h4⟩ := findV_mem _ _ _ (getD_mem (findL lists ws) i (0, 0) hi)
    exact ⟨h1, h2, h3, h4⟩
  · have := List.pairwise_iff_getElem.1 (findV_pair (lists := lists) (ws := ws) ws.length 0) i j (by unfold findL at hj; omega) hj hij
    have e1 : (findL lists ws).getD i (0, 0) = (findL lists ws)[i]'(by omega) := by rw [List.getD_eq_getElem?_getD, List.getElem?_eq_getElem (by omega)]; rfl
    have e2 : (findL lists ws).getD j (0, 0) = (findL lists ws)[j] := by rw [List.getD_eq_getElem?_getD, List.getElem?_eq_getElem hj]; rfl
    rw [e1, e2]
    exact this
theorem wpQuiet_load {P : Program} {ops : Array Oper} {C : World → Prop} {Q : Act → Prop} {o : Oper} {rest : List Oper} {a : Act} (ty : TypeId) (x : Operand) (ho : o.op = .load ty x) (hgd : o.guard = none) (p : Addr)
    (hx : a.eval x = .pointer (some p)) (v : Value) (hl : ∀ w, C w → (loadVar ty p).run P w = .ok v w) (h : wpQuiet P ops C Q rest (a.put o.dst v)) : wpQuiet P ops C Q (o :: rest) a := by
  refine BigFrame.wpQuiet_want (by simp [Region.wanted, hgd]) ?_
  intro K hK
  refine ⟨v, fun w hC => ?_, hK _ h⟩
  show Oper.quietUpon P C w v ((execOp a.eval o).run P w)
  unfold execOp
  simp only [ho, hx, Instr.loadAt, Instr.sureAddr, Sem.run_bind, Sem.run_pure, Result.andThen_ok, hl w hC]
  exact ⟨rfl, rfl⟩
theorem wpQuiet_op {P : Program} {ops : Array Oper} {C : World → Prop} {Q : Act → Prop} {o : Oper} {rest : List Oper} {a : Act} (hgd : o.guard = none) (v : Value) (hl : ∀ w, C w → (execOp a.eval o).run P w = .ok (.value v) w) (h : wpQuiet P ops C Q rest (a.put o.dst v)) : wpQuiet P ops C Q (o :: rest) a := by
  refine BigFrame.wpQuiet_want (by simp [Region.wanted, hgd]) ?_
  intro K hK
  refine ⟨v, fun w hC => ?_, hK _ h⟩
  show Oper.quietUpon P C w v ((execOp a.eval o).run P w)
  rw [hl w hC]
  exact ⟨rfl, rfl⟩
theorem load_pair {w : World} {b o : Nat} {x y : Int} (h0 : w.cell? ⟨b, o, none⟩ = some (.int .i64 x)) (h1 : w.cell? ⟨b, o + 1, none⟩ = some (.int .i64 y)) : (loadVar 45 ⟨b, o, none⟩).run Try.prog w = .ok (.agg #[.int .i64 x, .int .i64 y]) w := by
  simp [go_sem, h0, h1]
set_option maxRecDepth 100000 in
set_option maxHeartbeats 8000000 in
theorem gf_second (terms : List ByteArray) (s : ByteArray) (ad : Option Addr) (n c : Nat) (w wr : World) (u2 u3 u4 u5 u6 u7 u8 u9 u10 u11 u12 u13 u14 u15 u16 u17 u18 u19 u20 u21 u22 u23 u24 u25 u26 u27 u28 u29 u30 u31 u32 u33 u34 u35 u36 u37 u38 u39 u40 u41 u42 u43 u44 u45 u46 u47 u48 u49 u50 u51 u52 u53 u54 u55 u56 u57 u58 u59 u60 u61 u62 u63 u64 u65 u66 u67 u68 u69 u70 u71 u72 u73 u74 u75 u76 u77 u78 u79 u80 u81 u82 u83 u84 u85 u86 u87 u88 u89 u90 u91 u92 u93 u94 u95 u96 u97 u98 u99 u100 u101 u102 u103 u104 u105 u106 u107 u108 u109 u110 u111 u112 u113 u114 u115 u116 u117 u118 u119 u120 u121 u122 u123 u124 u125 : Value) (ht : Sl w ad n (strs terms)) (hn : n ≤ 40) (hs : s.size ≤ 600) (hz : ∀ s ∈ terms, s.size ≤ 300) (hb : Below w.heap.size w wr) :
    (gfC 9).wp Try.prog (bodyPost Try.prog Try.f5 (fun e w' => e = .returned (.bool true) ∧ Below w.heap.size w w')) ⟨#[.slice ad n c, .string s, u2, u3, u4, u5, u6, u7, u8, u9, u10, u11, u12, u13, u14, u15, u16, u17, u18, u19, u20, u21, u22, u23, u24, u25, u26, u27, u28, u29, u30, u31, u32, u33, u34, u35, u36, u37, u38, u39, u40, u41, u42, u43, u44, u45, u46, u47, u48, u49, u50, u51, u52, u53, u54, u55, u56, u57, u58, u59, u60, u61, u62, u63, u64, u65, u66, u67, u68, u69, u70, u71, u72, u73, u74, u75, u76, u77, u78, u79, u80, u81, u82, u83, u84, u85, u86, u87, u88, u89, u90, u91, u92, u93, u94, u95, u96, u97, u98, u99, u100, u101, u102, u103, u104, u105, u106, u107, u108, u109, u110, u111, u112, u113, u114, u115, u116, u117, u118, u119, u120, u121, u122, u123, u124, u125], []⟩ wr := by
  have hl := ht.len
  rw [strs_length] at hl
  have HT := Lib.hid (ht.below hb)
  have HB := Lib.hid hb
  have HL := Lib.hid hl
  have HZ := Lib.hid hz
  have HWD := Lib.hid (fun W => words_any s W (by omega))
  have HRW := Lib.hid (fun W => rwords_any s W (by omega))
  have HPF := Lib.hid (fun W (h : Sl W ad n (strs terms)) => pfind_any terms ad n c s W h hn (fun s h => Nat.le_trans (hz s h) (by omega)) (by omega))
  have HRF := Lib.hid (fun W (h : Sl W ad n (strs terms)) => prfind_any terms ad n c s W h hn (fun s h => Nat.le_trans (hz s h) (by omega)) (by omega))
  have HSM0 : Hid (∀ ad n c ps ad' n' c' qs w, Sl w ad n (strs ps) → Sl w ad' n' (strs qs) → _) := rsame_any
  have HRT := Lib.hid rwords_any
  have HPK := Lib.hid (plK (terms.map wordsB) (wordsB s))
  have hwl := wordsB_le s
  have HLW : Hid (∀ i, i < n → lnW (terms.map wordsB) i = (wordsB (terms.getD i .empty)).length ∧ (terms.map wordsB).getD i [] = wordsB (terms.getD i .empty)) := fun i hi => by
    have e : (terms.map wordsB).getD i [] = wordsB (terms.getD i .empty) := by
      rw [List.getD_eq_getElem?_getD, List.getElem?_map, List.getD_eq_getElem?_getD, List.getElem?_eq_getElem (by omega)]
      rfl
    exact ⟨by unfold lnW; rw [e], e⟩
  have HLL : Hid ((terms.map wordsB).length = n) := by rw [Hid, List.length_map]; exact hl
  have hfl : (findL (terms.map wordsB) (wordsB s)).length ≤ 1000001 := Nat.le_trans (findV_len _ _) (Nat.le_trans (wordsB_le s) (by omega))
  unfold FindPost at HPF HRF
  clear ht hb hl hz
  generalize findL (terms.map wordsB) (wordsB s) = fl at *
  generalize terms.map wordsB = lists at *
  generalize wordsB s = ws at *
  obtain ⟨N, hN⟩ : ∃ N, ws.length = N := ⟨_, rfl⟩
  rw [hN] at HWD HRW hwl
  have HNN := Lib.hid hN
  clear hN
  obtain ⟨F, hF⟩ : ∃ F, fl.length = F := ⟨_, rfl⟩
  rw [hF] at HPF HRF hfl
  have HFF := Lib.hid hF
  clear hF
  unfold gfC
  dsimp only
  conv => arg 2; whnf
  go_wp2_with fail
  refine (HWD.out _).mono ?_
  rintro e w1 ⟨aw, cw, rfl, hown1, hb⟩
  have HB1 := Lib.hid (HB.out.trans (hb.mono HB.out.size))
  have HT1 := Lib.hid (HT.out.below hb)
  have HO1 := Lib.hid hown1
  clear hown1 hb HB HT HWD
  go_wp2_with fail
  refine (HRW.out _).mono ?_
  rintro e w2 ⟨ax, cx, rfl, hown2, hb⟩
  have HB2 := Lib.hid (HB1.out.trans (hb.mono HB1.out.size))
  have HT2 := Lib.hid (HT1.out.below hb)
  have HO2 := Lib.hid (own_below HO1.out hb)
  have HSX := Lib.hid (Own.sl hown2)
  clear hown2 hb HB1 HT1 HO1 HRW
  go_wp2_with fail
  refine (HSM0.out aw N cw ws ax N cx ws w2 (Own.sl HO2.out) HSX.out).mono ?_
  rintro e w3 ⟨rfl, hb⟩
  have hse : sameB ws ws = true := by unfold sameB; exact decide_eq_true rfl
  rw [hse]
  have HB3 := Lib.hid (HB2.out.trans (hb.mono HB2.out.size))
  have HT3 := Lib.hid (HT2.out.below hb)
  have HO3 := Lib.hid (own_below HO2.out hb)
  clear hse hb HB2 HT2 HO2 HSX
  go_wp2_with fail
  refine (HPF.out _ HT3.out).mono ?_
  rintro e w4 ⟨a4, c4, rfl, hpr4, hb⟩
  have HB4 := Lib.hid (HB3.out.trans (hb.mono HB3.out.size))
  have HT4 := Lib.hid (HT3.out.below hb)
  have HO4 := Lib.hid (own_below HO3.out hb)
  have HP4 := Lib.hid (PrR.at hpr4)
  clear hpr4 hb HB3 HT3 HO3 HPF
  go_wp2_with fail
  refine (HRF.out _ HT4.out).mono ?_
  rintro e w5 ⟨a5, c5, rfl, hpr5, hb⟩
  have HB5 := Lib.hid (HB4.out.trans (hb.mono HB4.out.size))
  have HT5 := Lib.hid (HT4.out.below hb)
  have HO5 := Lib.hid (own_below HO4.out hb)
  have HP5 := Lib.hid (HP4.out.below hb)
  have HQ5 := Lib.hid (PrR.at hpr5)
  clear hpr5 hb HB4 HT4 HO4 HP4 HRF
  go_wp2_with fail
  go_loopw [11, 70] (fun x u wx => ∃ (i E : Nat), u = .int .i64 (i : Int) ∧ x = .int .i64 (E : Int) ∧ i ≤ F ∧ E ≤ N ∧ (∀ j, i ≤ j → j < F → E ≤ (fl.getD j (0, 0)).2) ∧ Below w5.heap.size w5 wx) (fun _ u _ => F - (intOf u).toNat)
  case atStart => exact ⟨0, 0, rfl, rfl, Nat.zero_le _, Nat.zero_le _, fun _ _ _ => Nat.zero_le _, Below.refl _ _⟩
  case round =>
    obtain ⟨i, E, rfl, rfl, hin, hEN, hE, hbl⟩ := hrel
    have HBX := Lib.hid hbl
    have HE := Lib.hid hE
    clear hbl hE
    by_cases hlt : i < F
    · obtain ⟨_, pb, po, hrp⟩ := HP5.out.below HBX.out
      obtain ⟨_, qb, qo, hrq⟩ := HQ5.out.below HBX.out
      have hixp := fun W => hrp.ix 42 45 Try.underlying42 cellsPair (by omega) hlt c4 W
      have hixq := fun W => hrq.ix 42 45 Try.underlying42 cellsPair (by omega) hlt c5 W
      have p0 := hrp.cell i 0 hlt (by omega)
      have p1 := hrp.cell i 1 hlt (by omega)
      have q0 := hrq.cell i 0 hlt (by omega)
      have q1 := hrq.cell i 1 hlt (by omega)
      rw [Nat.add_zero] at p0 q0
      simp only [prC] at p0 p1 q0 q1
      obtain ⟨k1, k2, k3, k4⟩ := HPK.out.1 i (by rw [HFF.out]; exact hlt)
      have hEk := HE.out i (Nat.le_refl _) hlt
      have HENX : Hid (∀ j, i + 1 ≤ j → j < F → (fl.getD i (0, 0)).2 + lnW lists (fl.getD i (0, 0)).1 ≤ (fl.getD j (0, 0)).2) := fun j h1 h2 => HPK.out.2 i j (by omega) (by rw [HFF.out]; exact h2)
      rw [HLL.out] at k1
      rw [HNN.out] at k2
      obtain ⟨l1, l2⟩ := HLW.out _ k1
      rw [l2] at k3
      rw [l1] at k2 k3 k4
      simp only [l1] at HENX
      have hlz : (i : Int) < (F : Int) := by omega
      clear hrp hrq l1 l2 HE
      generalize fl.getD i (0, 0) = x at *
      obtain ⟨a, b⟩ := x
      simp only at p0 p1 q0 q1 k1 k2 k3 k4 hEk HENX
      have hEz : ¬ (b : Int) < (E : Int) := by omega
      have hEd : decide ((b : Int) < (E : Int)) = false := decide_eq_false hEz
      have hsz := HZ.out (terms.getD a .empty) (getD_mem _ _ _ (by rw [HL.out]; exact k1))
      obtain ⟨tb, tq, hst⟩ := HT5.out.below HBX.out
      have hixt := fun W => hst.ix (c := c) 39 9 Try.underlying39 cellsStr k1 W
      have hct := hst.cell a k1
      rw [strs_getD _ _ (by rw [HL.out]; exact k1)] at hct
      clear hst
      generalize terms.getD a .empty = st at *
      have HK3 := Lib.hid k3
      have HSZ := Lib.hid hsz
      obtain ⟨m, hm⟩ : ∃ m, (wordsB st).length = m := ⟨_, rfl⟩
      rw [hm] at k2 k4 HENX HK3
      have HM := Lib.hid hm
      clear hm k3 hsz
      have hwp : 0 < N := by omega
      obtain ⟨_, ⟨_, h0⟩ | ⟨g, cap, cur, e6, _, _⟩⟩ := HO5.out
      · exact absurd h0 (by omega)
      injection e6 with e6 _ e7
      subst e6
      clear e7
      have hcw := HO5.out.2
      have HSW := Lib.hid (Own.sl (own_below HO5.out HBX.out))
      have HCW : Hid (∀ W, Below w5.heap.size w5 W → ∀ j, j < N → W.cell? ⟨g, j, none⟩ = some (.string (ws.getD j .empty))) := fun W hb j hj => by
        obtain ⟨b9, o9, h9⟩ := Own.sl (own_below HO5.out hb)
        have h8 := h9.adr (by omega)
        injection h8 with h8
        injection h8 with h6 h7
        subst h6 h7
        have := h9.cell j hj
        rwa [strs_getD _ _ (by rw [HNN.out]; exact hj), Nat.zero_add] at this
      have HNC : Hid (N ≤ cw) := by
        rcases HO5.out.2 with ⟨h9, _⟩ | ⟨g9, cap9, cur9, e9, _, _, h4, _⟩
        · cases h9
        · injection e9 with _ _ e9
          rw [e9]
          exact h4
      clear hcw
      go_wp2_with fail
      have heq : ∀ W, (Op.equalIn 10000 45 (.agg #[.int .i64 (a : Int), .int .i64 (b : Int)]) (.agg #[.int .i64 (a : Int), .int .i64 (b : Int)])).run Try.prog W = .ok true W := fun W => by simpa using (fun W => eq_pair (a : Int) (b : Int) (a : Int) (b : Int) W (wf_nat (by omega)) (wf_nat (by omega)) (wf_nat (by omega)) (wf_nat (by omega))) W
      have hpb : pb < wr.heap.size := World.block_lt_of_cell? wr _ p0
      have hqb : qb < wr.heap.size := World.block_lt_of_cell? wr _ q0
      refine wp_region_ext (by kernel_rfl) (by kernel_rfl) ?_
      repeat (go_big_quiet_step (fail))
      refine wpQuiet_nil ?_
      intro _ hw'
      obtain ⟨X9, hw''⟩ := hw'
      subst hw''
      have HBX9 := Lib.hid (HBX.out.trans (X9.2.mono HBX.out.size))
      have hct9 := cell_later X9.2 hct
      have r0 := cell_later X9.2 p0
      have r1 := cell_later X9.2 p1
      have HSZ1 : Hid (st.size ≤ 1000000) := Nat.le_trans HSZ.out (by omega)
      clear heq hpb hqb p0 p1 q0 q1 hct hixq
      generalize X9.1 = w7 at *
      go_wp2_with fail
      refine (HRT.out st _ HSZ1.out).mono ?_
      rintro e w8 ⟨a8, c8, rfl, hown8, hb⟩
      rw [HM.out] at hown8 ⊢
      have HBX8 := Lib.hid (HBX9.out.trans (hb.mono HBX9.out.size))
      have HS8 := Lib.hid (Own.sl hown8)
      have s0 := cell_later hb r0
      have s1 := cell_later hb r1
      have HSB := Lib.hid (sub_sl (HCW.out _ HBX8.out) HNN.out k2 (by omega))
      have hcut : sameB ((ws.drop b).take m) (wordsB st) = true := by rw [← HK3.out]; unfold sameB; exact decide_eq_true rfl
      have HCC : Hid (∀ c, Calls Try.prog 19 #[.slice (some ⟨g, b, none⟩) m c, .slice a8 m c8] w8 fun e w' => e = .returned (.bool true) ∧ Below w8.heap.size w8 w') := fun c => by
        have := HSM0.out (some ⟨g, b, none⟩) m c _ a8 m c8 _ w8 HSB.out HS8.out
        rwa [hcut] at this
      clear hown8 hb r0 r1 HSB HS8 hcut hct9
      have hgt : ¬ (N : Int) < (b : Int) + (m : Int) := by omega
      have hgd : decide ((N : Int) < (b : Int) + (m : Int)) = false := decide_eq_false hgt
      have hnc := HNC.out
      go_wp2_with fail
      refine (HCC.out _).mono ?_
      rintro e w9 ⟨rfl, hb⟩
      have HBX10 := Lib.hid (HBX8.out.trans (hb.mono HBX8.out.size))
      have HEN2 : Hid (b + m ≤ N) := k2
      clear hb HCC HCW hixp
      go_wp2_with fail
      go_roundw
      case rel => exact ⟨i + 1, b + m, by go_num, by go_num, by omega, HEN2.out, HENX.out, HBX10.out⟩
      case measure => simp [intOf]; omega
    · obtain rfl : i = F := by omega
      go_wp2_with fail
      go_ret
      exact ⟨rfl, HB5.out.trans (HBX.out.mono HB5.out.size)⟩
end Go.Proofs.Ytkodnagneblgaaa
