/- Walks: the text of a day with a pattern. -/
import Derived.Test.YtaolbfbnjbpljaaDoorF1
import Derived.Test.YtaolbfbnjbpljaaDoorV6
import Derived.Test.YtaolbfbnjbpljaaDoorR
namespace Go.Proofs.YtaolbfbnjbpljaaDoor
open Go.RowKit
attribute [local go_sem] Ext.cell Ext.frozen
attribute [local go_sem ↓] Go.wp_at_zero Go.wp_at_succ

/-- what text writes, by what it writes for a field -/
def textV (FV : List UInt8 → Option (List UInt8)) : Nat → List UInt8 → Option (List UInt8)
  | 0, _ => some []
  | _ + 1, [] => some []
  | n + 1, c :: s =>
    if (c :: s).takeWhile isL = [] then (textV FV n s).map (c :: ·)
    else (FV ((c :: s).takeWhile isL)).bind fun t => (textV FV n ((c :: s).dropWhile isL)).map (t ++ ·)
theorem textV_nil {FV} (n : Nat) : textV FV n [] = some [] := by cases n <;> rfl
theorem textV_skip {FV} {n : Nat} {c : UInt8} {s : List UInt8} (h : (c :: s).takeWhile isL = []) : textV FV (n + 1) (c :: s) = (textV FV n s).map (c :: ·) := by rw [textV, if_pos h]
theorem textV_take {FV} {n : Nat} {c : UInt8} {s : List UInt8} (h : (c :: s).takeWhile isL ≠ []) :
    textV FV (n + 1) (c :: s) = (FV ((c :: s).takeWhile isL)).bind fun t => (textV FV n ((c :: s).dropWhile isL)).map (t ++ ·) := by rw [textV, if_neg h]
def fRes : Option (List UInt8) → Value
  | some t => .tuple #[.string (bs t), .int .i64 0]
  | none => .tuple #[.string ⟨#[]⟩, .int .i64 18]
theorem tk_at {l : List UInt8} {k : Nat} (h : k < (l.takeWhile isL).length) : ∃ hk : k < (bs l).size, isL (bs l)[k] = true := by
  have hl : (l.takeWhile isL).length ≤ l.length := (List.takeWhile_sublist _).length_le
  refine ⟨by rw [bs_size]; omega, ?_⟩
  have h4 : (bs l)[k]'(by rw [bs_size]; omega) = l[k]'(by omega) := rfl
  rw [h4]
  have h5 := List.all_eq_true.1 List.all_takeWhile _ (List.getElem_mem h)
  rwa [List.getElem_of_eq (List.prefix_iff_eq_take.1 (List.takeWhile_prefix isL)) h, List.getElem_take] at h5
theorem tk_end {l : List UInt8} (h : (l.takeWhile isL).length < (bs l).size) : isL ((bs l)[(l.takeWhile isL).length]) = false := by
  rw [bs_size] at h
  have h4 : (bs l)[(l.takeWhile isL).length]'(by rw [bs_size]; exact h) = l[(l.takeWhile isL).length] := rfl
  rw [h4]
  have h1 : l = l.takeWhile isL ++ l.dropWhile isL := (List.takeWhile_append_dropWhile ..).symm
  have h2 : l.dropWhile isL = l.drop (l.takeWhile isL).length := by
    have e := congrArg (List.drop (l.takeWhile isL).length) h1
    rw [List.drop_left' rfl] at e
    exact e.symm
  rw [List.drop_eq_getElem_cons h] at h2
  have h3 := List.head?_dropWhile_not isL l
  rw [h2] at h3
  exact h3
theorem push1 (h : Array Obj) (a b : Obj) : ((h.push a).push b)[h.size]? = some a := by
  simp [Array.getElem?_push]
theorem wpQuiet_load {P : Program} {ops : Array Oper} {C : World → Prop} {Q : Act → Prop} {o : Oper} {rest : List Oper} {a : Act} (ty : TypeId) (x : Operand) (ho : o.op = .load ty x) (hgd : o.guard = none) (p : Addr)
    (hx : a.eval x = .pointer (some p)) (v : Value) (hl : ∀ w, C w → (loadVar ty p).run P w = .ok v w) (h : wpQuiet P ops C Q rest (a.put o.dst v)) : wpQuiet P ops C Q (o :: rest) a := by
  refine BigFrame.wpQuiet_want (by simp [Region.wanted, hgd]) ?_
  intro K hK
  refine ⟨v, fun w hC => ?_, hK _ h⟩
  show Oper.quietUpon P C w v ((execOp a.eval o).run P w)
  unfold execOp
  simp only [ho, hx, Instr.loadAt, Instr.sureAddr, Sem.run_bind, Sem.run_pure, Result.andThen_ok, hl w hC]
  exact ⟨rfl, rfl⟩
theorem push2 (h : Array Obj) (a b : Obj) : ((h.push a).push b)[h.size + 1]? = some b := by
  have := Array.getElem?_push_size (xs := h.push a) (x := b)
  rwa [Array.size_push] at this
theorem str_ne {c : UInt8} {s : List UInt8} : ¬ bs (c :: s) = ⟨#[]⟩ := fun e => by have := congrArg (fun s : ByteArray => s.data.toList) e; rw [bs_data] at this; cases this
theorem cells_bytes (l : List UInt8) (s : List UInt8) : Lib.byteCells l ++ Lib.strCells (bs s) = Lib.byteCells (l ++ s) := by
  simp [Lib.byteCells, Lib.strCells, bs]
theorem cells_byte (l : List UInt8) (c : UInt8) : Lib.byteCells l ++ [.int .u8 (c.toNat : Int)] = Lib.byteCells (l ++ [c]) := by
  simp [Lib.byteCells]
theorem cells_len (l : List UInt8) : (Lib.byteCells l).length = l.length := by simp [Lib.byteCells]

set_option maxRecDepth 20000 in
set_option maxHeartbeats 16000000 in
theorem text_day (v0 v1 v2 v3 v4 v5 v6 v7 v8 v9 v10 v11 v12 v13 v14 v15 wd : Value) (y m d : Nat) (FV : List UInt8 → Option (List UInt8)) (p : ByteArray) (w : World) (hp : p.size ≤ 1000) {gs} (hg : runsV p.data.toList.length p.data.toList = some gs)
    (hF : ∀ f, isFld f = true → f ∈ gs → ∀ w', Below w.heap.size w w' → Calls Tryd.prog 74 #[.agg #[v0, v1, v2, v3, v4, v5, v6, v7, v8, v9, v10, v11, v12, v13, v14, v15, .int .i64 (y : Int), .int .i64 (m : Int), .int .i64 (d : Int), wd], .string (bs f)] w' fun e w'' => e = .returned (fRes (FV f)) ∧ Below w'.heap.size w' w'')
    (hL : ∀ f t, FV f = some t → t.length ≤ 1000000) :
    Calls Tryd.prog 50 #[.agg #[v0, v1, v2, v3, v4, v5, v6, v7, v8, v9, v10, v11, v12, v13, v14, v15, .int .i64 (y : Int), .int .i64 (m : Int), .int .i64 (d : Int), wd], .string p] w fun e w' => e = .returned (fRes (textV FV p.data.toList.length p.data.toList)) ∧ Below w.heap.size w w' := by
  have HL := Lib.hid letter_any
  have HF := Lib.hid hF
  have HFL := Lib.hid hL
  have HG := Lib.hid hg
  have HWB := Lib.hid wbyte_any
  have HWS := Lib.hid wstring_any
  have HST := Lib.hid (fun (B b : Nat) (l : List UInt8) (w : World) (h : SB B b l w) (hB : B ≤ w.heap.size) => Tryd.Builder_String_any B b l w h hB)
  have hpl : p.data.toList.length = p.size := size_len p
  clear hF hL hg
  go_enter Tryd.func50, Tryd.ntmps50
  go_wp2_with fail
  refine wp_at_world ?_
  intro W hW
  have hWs : W.heap.size = w.heap.size + 2 := by rw [hW]; simp
  have HBW : Hid (Below w.heap.size w W) := by rw [hW]; exact ((Below.refl _ _).alloc (Nat.le_refl _) _).alloc (by simp) _
  have HCW : Hid (W.heap[w.heap.size]? = some (.cells #[v0, v1, v2, v3, v4, v5, v6, v7, v8, v9, v10, v11, v12, v13, v14, v15, .int .i64 (y : Int), .int .i64 (m : Int), .int .i64 (d : Int), wd] 89 (0, 0))) := by rw [hW]; exact push1 _ _ _
  have HBD : Hid (SB (w.heap.size + 1) (w.heap.size + 1) [] W) := by
    refine .inl ⟨Nat.le_refl _, .slice none 0 0, ?_, World.ownsRow_nil _ _ _ _, by simp [Value.ownBlock]⟩
    rw [hW]; exact push2 _ _ _
  clear hW
  go_loopw [1] (fun v wr => ∃ (n : Nat) (l rr : List UInt8) (g : List (List UInt8)), rr.length ≤ n ∧ rr.length ≤ p.size ∧ l.length + rr.length * 1000000 ≤ p.size * 1000000 ∧
      textV FV p.data.toList.length p.data.toList = (textV FV n rr).map (l ++ ·) ∧ runsV n rr = some g ∧ (∀ f ∈ g, f ∈ gs) ∧ v = .string (bs rr) ∧ SB (w.heap.size + 1) (w.heap.size + 1) l wr ∧ Below (w.heap.size + 1) W wr) (fun v _ => strLen v)
  case atStart => exact ⟨_, [], p.data.toList, _, Nat.le_refl _, by omega, by rw [hpl]; simp, by simp, HG.out, fun f hf => hf, rfl, HBD.out, Below.refl _ _⟩
  case round =>
    obtain ⟨n, l, rr, g, hn, hrp, hll, hv, hg, hsub, rfl, hsb, hbl⟩ := hrel
    have HSUB := Lib.hid hsub
    clear hsub
    have HV := Lib.hid hv
    have HGR := Lib.hid hg
    have HSB := Lib.hid hsb
    have HBL := Lib.hid hbl
    have hz := hbl.size
    have HLD : Hid (∀ w', (∃ x : Ext wr, w' = x.1) → (loadVar 89 ⟨w.heap.size, 0, none⟩).run Tryd.prog w' = .ok (.agg #[v0, v1, v2, v3, v4, v5, v6, v7, v8, v9, v10, v11, v12, v13, v14, v15, .int .i64 (y : Int), .int .i64 (m : Int), .int .i64 (d : Int), wd]) w') := by
      rintro _ ⟨x, rfl⟩
      refine run_loadVar_row x.1 w.heap.size 89 89 _ (0, 0) _ ?_ Tryd.underlying89 rfl (by kernel_rfl)
      rw [x.2.block _ (by omega), HBL.out.block _ (by omega)]
      exact HCW.out
    have HBX : Hid (Below w.heap.size w wr) := HBW.out.trans (HBL.out.mono (by omega))
    clear hv hg hsb hbl
    cases rr with
    | nil =>
      have HO : Hid (textV FV p.data.toList.length p.data.toList = some l) := by unfold Hid; rw [HV.out, textV_nil]; simp
      have e0 : bs ([] : List UInt8) = ⟨#[]⟩ := rfl
      rw [e0]
      go_wp2_with fail
      refine (HST.out _ _ _ _ HSB.out (by omega)).mono ?_
      rintro e w2 ⟨rfl, hb2⟩
      go_wp2_with fail
      go_ret2
      exact ⟨by rw [HO.out]; rfl, HBX.out.trans (hb2.mono (by omega))⟩
    | cons c s =>
      obtain ⟨n, rfl⟩ : ∃ q, n = q + 1 := ⟨n - 1, by simp at hn; omega⟩
      have hne : ¬ bs (c :: s) = ⟨#[]⟩ := str_ne
      have hne2 : (bs (c :: s)).toList.isEmpty = false := by rw [bs_toList]; rfl
      have hrs : (bs (c :: s)).size = (c :: s).length := bs_size _
      have hrs2 : (bs (c :: s)).size ≤ 1000 := by omega
      have HAT := Lib.hid (fun k h => tk_at (l := c :: s) (k := k) h)
      have HEN := Lib.hid (fun h => tk_end (l := c :: s) h)
      have htl : ((c :: s).takeWhile isL).length ≤ (bs (c :: s)).size := by rw [hrs]; exact (List.takeWhile_sublist _).length_le
      have hsp : c :: s = (c :: s).takeWhile isL ++ (c :: s).dropWhile isL := (List.takeWhile_append_dropWhile ..).symm
      have hdl := congrArg List.length hsp
      rw [List.length_append] at hdl
      have hR0 : 0 < (bs (c :: s)).size := by rw [bs_size]; simp
      have HX0 : Hid ((bs (c :: s))[0]'hR0 = c) := rfl
      have hex1 : (bs (c :: s)).extract 1 (bs (c :: s)).size = bs s := by
        rw [bs_extract, List.take_of_length_le (by rw [bs_size]; exact Nat.le_refl _)]; rfl
      have hexk : (bs (c :: s)).extract 0 ((c :: s).takeWhile isL).length = bs ((c :: s).takeWhile isL) := by
        rw [bs_extract, List.drop_zero]
        conv => lhs; arg 1; arg 2; rw [hsp]
        rw [List.take_left]
      have hexd : (bs (c :: s)).extract ((c :: s).takeWhile isL).length (bs (c :: s)).size = bs ((c :: s).dropWhile isL) := by
        rw [bs_extract, List.take_of_length_le (by rw [bs_size]; exact Nat.le_refl _)]
        conv => lhs; arg 1; arg 2; rw [hsp]
        rw [List.drop_left]
      have HSK := Lib.hid (fun h => textV_skip (FV := FV) (n := n) (c := c) (s := s) h)
      have HTA := Lib.hid (fun h => textV_take (FV := FV) (n := n) (c := c) (s := s) h)
      have HRS := Lib.hid (fun h => runsV_skip (n := n) (c := c) (s := s) h)
      have HRT := Lib.hid (fun h1 h2 => runsV_take (n := n) (c := c) (s := s) h1 h2)
      have HRF := Lib.hid (fun h1 h2 => runsV_fail (n := n) (c := c) (s := s) h1 h2)
      have HTL : Hid (((c :: s).takeWhile isL).length = 0 ↔ (c :: s).takeWhile isL = []) := List.length_eq_zero_iff
      have hls : (c :: s).length = s.length + 1 := rfl
      clear hsp
      generalize hT : (c :: s).takeWhile isL = T at *
      generalize hD : (c :: s).dropWhile isL = D at *
      clear hT hD
      generalize hR : bs (c :: s) = R at *
      clear hR
      have hq1 : R.size ≤ s.length + 1 := by omega
      have hq2 : s.length + 1 ≤ R.size := by omega
      have hq3 : s.length + 1 ≤ T.length + D.length := by omega
      have hq4 : T.length + D.length ≤ s.length + 1 := by omega
      have hn2 : s.length ≤ n := by omega
      have hrp2 : s.length + 1 ≤ p.size := by omega
      have hll2 : l.length + (s.length + 1) * 1000000 ≤ p.size * 1000000 := by rw [← hls]; exact hll
      clear hrs hls hdl hn hrp hll
      go_wp2_with fail
      go_loop [7] (fun v => ∃ k : Nat, v = .int .i64 (k : Int) ∧ k ≤ T.length) (fun v => T.length - (intOf v).toNat)
      case atStart => exact ⟨0, rfl, by omega⟩
      case round =>
        obtain ⟨k, rfl, hk⟩ := hrel
        by_cases hlt : k < T.length
        · obtain ⟨hk2, hI⟩ := HAT.out k hlt
          have HLK := Lib.hid (fun w => HL.out R[k] w)
          rw [hI] at HLK
          clear hI
          go_wp2_with fail
          refine (HLK.out _).mono ?_
          rintro e _ ⟨rfl, rfl⟩
          go_wp2_with fail
          go_round
          case rel => exact ⟨k + 1, by go_num, by omega⟩
          case measure => simp [intOf]; omega
        · obtain rfl : k = T.length := by omega
          cases T with
          | nil =>
            have h0 : 0 < R.size := by omega
            have hI : isL (R[0]'h0) = false := HEN.out h0
            have HLK := Lib.hid (fun w => HL.out R[0] w)
            rw [hI] at HLK
            have HVN := Lib.hid (HSK.out rfl)
            have HRN := Lib.hid (HRS.out rfl)
            have HG2 : Hid (runsV n s = some g) := by unfold Hid; rw [← HRN.out]; exact HGR.out
            have HV2 : Hid (textV FV p.data.toList.length p.data.toList = (textV FV n s).map ((l ++ [c]) ++ ·)) := by
              unfold Hid; rw [HV.out, HVN.out, Option.map_map]; congr 1; funext x; simp
            clear hI HVN HRN HSK HTA HRS HRT HRF HAT HEN HGR HV HF HFL hexk hexd
            rw [show (([] : List UInt8).length : Int) = 0 from rfl]
            go_wp2_with fail
            refine (HLK.out _).mono ?_
            rintro e _ ⟨rfl, rfl⟩
            go_wp2_with fail
            refine (HWB.out _ _ _ _ _ HSB.out (by rw [cells_len]; omega) (by omega)).mono ?_
            rintro e w2 ⟨rfl, hb2, hbl2⟩
            have HB2 := Lib.hid hb2
            have HBL2 := Lib.hid hbl2
            have hz2 := hbl2.size
            clear hb2 hbl2
            go_wp2_with fail
            go_roundw
            case rel => exact ⟨n, l ++ [c], s, g, by omega, by omega, by simp; omega, HV2.out, HG2.out, HSUB.out, by first | rfl | rw [hex1], .inr (by rw [← cells_byte, ← HX0.out]; exact HB2.out), HBL.out.trans HBL2.out⟩
            case measure => simp [strLen, bs_size]; omega
          | cons t0 T1 =>
            have hTn : (t0 :: T1) ≠ [] := by simp
            have hfld : isFld (t0 :: T1) = true := by
              cases hf : isFld (t0 :: T1) with
              | true => rfl
              | false => have := HRF.out hTn hf; rw [HGR.out] at this; cases this
            have HRT2 := Lib.hid (HRT.out hTn hfld)
            have HTA2 := Lib.hid (HTA.out hTn)
            obtain ⟨g2, hg2⟩ : ∃ g2, runsV n D = some g2 := by
              cases hq : runsV n D with
              | some q => exact ⟨q, rfl⟩
              | none => have := HRT2.out; rw [HGR.out, hq] at this; cases this
            have hgg : g = (t0 :: T1) :: g2 := by have := HRT2.out; rw [HGR.out, hg2] at this; injection this
            have HSUB2 : Hid (∀ f ∈ g2, f ∈ gs) := fun f hf => HSUB.out f (by rw [hgg]; exact List.mem_cons_of_mem _ hf)
            have HTG : Hid ((t0 :: T1) ∈ gs) := HSUB.out _ (by rw [hgg]; simp)
            clear hgg
            have HG2 := Lib.hid hg2
            have HFD : Hid (∀ x : Ext wr, Calls Tryd.prog 74 #[.agg #[v0, v1, v2, v3, v4, v5, v6, v7, v8, v9, v10, v11, v12, v13, v14, v15, .int .i64 (y : Int), .int .i64 (m : Int), .int .i64 (d : Int), wd], .string (bs (t0 :: T1))] x.1 fun e w'' => e = .returned (fRes (FV (t0 :: T1))) ∧ Below x.1.heap.size x.1 w'') := fun x => HF.out _ hfld HTG.out x.1 (HBX.out.trans (x.2.mono (by omega)))
            have hTl : 0 < (t0 :: T1).length := by simp
            have hT0 : decide (((t0 :: T1).length : Int) = 0) = false := by simp; omega
            have hT1 : (((t0 :: T1).length : Int) == 0) = false := by simp; omega
            have hI0 := HEN.out
            have hb0 : w.heap.size < wr.heap.size := by omega
            clear HSK HTA HRS HRT HRF HAT HEN HGR HF hex1 hfld hTn hg2 HRT2 HX0 HWB
            generalize hTT : t0 :: T1 = T at *
            clear hTT
            generalize bs T = TB at *
            generalize T.length = tn at *
            cases hFV : FV T with
            | none =>
              have HO : Hid (textV FV p.data.toList.length p.data.toList = none) := by unfold Hid; rw [HV.out, HTA2.out, hFV]; rfl
              have HFE : Hid (∀ x : Ext wr, Calls Tryd.prog 74 #[.agg #[v0, v1, v2, v3, v4, v5, v6, v7, v8, v9, v10, v11, v12, v13, v14, v15, .int .i64 (y : Int), .int .i64 (m : Int), .int .i64 (d : Int), wd], .string TB] x.1 fun e w'' => e = .returned (.tuple #[.string ⟨#[]⟩, .int .i64 18]) ∧ Below x.1.heap.size x.1 w'') := fun x => by have := HFD.out x; rw [hFV] at this; exact this
              clear HV HTA2 HFD hFV HFL HST HWS
              by_cases hlt2 : tn < R.size
              · have hI := hI0 hlt2
                have HLK := Lib.hid (fun w => HL.out (R[tn]'hlt2) w)
                rw [hI] at HLK
                clear hI hI0
                go_wp2_with fail
                refine (HLK.out _).mono ?_
                rintro e _ ⟨rfl, rfl⟩
                go_wp2_with fail
                refine wp_region_ext (by kernel_rfl) (by kernel_rfl) ?_
                refine wpQuiet_load 89 (.tmp 2) rfl rfl ⟨w.heap.size, 0, none⟩ rfl _ HLD.out ?_
                simp only [Act.put, List.setIfInBounds_toArray, List.set_cons_succ, List.set_cons_zero]
                repeat (go_big_quiet_step ((go_at_call 74; exact Calls.ext (HFE.out _))))
                refine wpQuiet_nil ?_
                intro _ hw'
                obtain ⟨X9, hw''⟩ := hw'
                subst hw''
                have HX9 := Lib.hid X9.2
                have hz9 := X9.2.size
                go_wp2_with fail
                go_ret2
                exact ⟨by rw [HO.out]; rfl, HBX.out.trans (HX9.out.mono (by omega))⟩
              · have hre : R.size = tn := by omega
                clear hI0
                go_wp2_with fail
                refine wp_region_ext (by kernel_rfl) (by kernel_rfl) ?_
                refine wpQuiet_load 89 (.tmp 2) rfl rfl ⟨w.heap.size, 0, none⟩ rfl _ HLD.out ?_
                simp only [Act.put, List.setIfInBounds_toArray, List.set_cons_succ, List.set_cons_zero]
                repeat (go_big_quiet_step ((go_at_call 74; exact Calls.ext (HFE.out _))))
                refine wpQuiet_nil ?_
                intro _ hw'
                obtain ⟨X9, hw''⟩ := hw'
                subst hw''
                have HX9 := Lib.hid X9.2
                have hz9 := X9.2.size
                go_wp2_with fail
                go_ret2
                exact ⟨by rw [HO.out]; rfl, HBX.out.trans (HX9.out.mono (by omega))⟩
            | some t =>
              have HV2 : Hid (textV FV p.data.toList.length p.data.toList = (textV FV n D).map ((l ++ t) ++ ·)) := by
                unfold Hid; rw [HV.out, HTA2.out, hFV]; show ((textV FV n D).map (t ++ ·)).map (l ++ ·) = _; rw [Option.map_map]; congr 1; funext x; simp
              have HFE : Hid (∀ x : Ext wr, Calls Tryd.prog 74 #[.agg #[v0, v1, v2, v3, v4, v5, v6, v7, v8, v9, v10, v11, v12, v13, v14, v15, .int .i64 (y : Int), .int .i64 (m : Int), .int .i64 (d : Int), wd], .string TB] x.1 fun e w'' => e = .returned (.tuple #[.string (bs t), .int .i64 0]) ∧ Below x.1.heap.size x.1 w'') := fun x => by have := HFD.out x; rw [hFV] at this; exact this
              have htL := HFL.out _ _ hFV
              have htB : (bs t).size = t.length := bs_size t
              have HCB := Lib.hid (cells_bytes l t)
              have HDB := Lib.hid (show (bs D).size = D.length from bs_size D)
              clear HV HTA2 HFD hFV HFL HST
              generalize bs t = tb at *
              by_cases hlt2 : tn < R.size
              · have hI := hI0 hlt2
                have HLK := Lib.hid (fun w => HL.out (R[tn]'hlt2) w)
                rw [hI] at HLK
                clear hI hI0
                go_wp2_with fail
                refine (HLK.out _).mono ?_
                rintro e _ ⟨rfl, rfl⟩
                go_wp2_with fail
                refine wp_region_ext (by kernel_rfl) (by kernel_rfl) ?_
                refine wpQuiet_load 89 (.tmp 2) rfl rfl ⟨w.heap.size, 0, none⟩ rfl _ HLD.out ?_
                simp only [Act.put, List.setIfInBounds_toArray, List.set_cons_succ, List.set_cons_zero]
                repeat (go_big_quiet_step ((go_at_call 74; exact Calls.ext (HFE.out _))))
                refine wpQuiet_nil ?_
                intro _ hw'
                obtain ⟨X9, hw''⟩ := hw'
                subst hw''
                have HX9 := Lib.hid X9.2
                have hz9 := X9.2.size
                go_wp2_with fail
                refine (HWS.out _ _ _ _ _ (HSB.out.below HX9.out) (by rw [cells_len]; omega) (by omega)).mono ?_
                rintro e w2 ⟨rfl, hb2, hbl2⟩
                have HB2 := Lib.hid hb2
                have HBL2 := Lib.hid hbl2
                have hz2 := hbl2.size
                clear hb2 hbl2
                go_wp2_with fail
                go_roundw
                case rel => exact ⟨n, l ++ t, D, g2, by omega, by omega, by simp; omega, HV2.out, HG2.out, HSUB2.out, by first | rfl | rw [hexd] | (have : D = [] := List.length_eq_zero_iff.1 (by omega); rw [this]; rfl), .inr (by rw [← HCB.out]; exact HB2.out), HBL.out.trans ((HX9.out.mono (by omega)).trans HBL2.out)⟩
                case measure => simp [strLen, HDB.out]; omega
              · have hre : R.size = tn := by omega
                clear hI0
                go_wp2_with fail
                refine wp_region_ext (by kernel_rfl) (by kernel_rfl) ?_
                refine wpQuiet_load 89 (.tmp 2) rfl rfl ⟨w.heap.size, 0, none⟩ rfl _ HLD.out ?_
                simp only [Act.put, List.setIfInBounds_toArray, List.set_cons_succ, List.set_cons_zero]
                repeat (go_big_quiet_step ((go_at_call 74; exact Calls.ext (HFE.out _))))
                refine wpQuiet_nil ?_
                intro _ hw'
                obtain ⟨X9, hw''⟩ := hw'
                subst hw''
                have HX9 := Lib.hid X9.2
                have hz9 := X9.2.size
                go_wp2_with fail
                refine (HWS.out _ _ _ _ _ (HSB.out.below HX9.out) (by rw [cells_len]; omega) (by omega)).mono ?_
                rintro e w2 ⟨rfl, hb2, hbl2⟩
                have HB2 := Lib.hid hb2
                have HBL2 := Lib.hid hbl2
                have hz2 := hbl2.size
                clear hb2 hbl2
                go_wp2_with fail
                go_roundw
                case rel => exact ⟨n, l ++ t, D, g2, by omega, by omega, by simp; omega, HV2.out, HG2.out, HSUB2.out, by first | rfl | rw [hexd] | (have : D = [] := List.length_eq_zero_iff.1 (by omega); rw [this]; rfl), .inr (by rw [← HCB.out]; exact HB2.out), HBL.out.trans ((HX9.out.mono (by omega)).trans HBL2.out)⟩
                case measure => simp [strLen]; omega
end Go.Proofs.YtaolbfbnjbpljaaDoor
