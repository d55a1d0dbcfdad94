/- Walks: the reference's Unescape and End, of any string. -/
import Derived.Test.YtpionddponmdmaaDoorQ21
import Derived.Test.YtpionddponmdmaaDoorQ19
import Derived.Laws.BytesString
namespace Go.Proofs.YtpionddponmdmaaDoor
open Go.RowKit
attribute [local go_sem] Ext.cell Ext.frozen
attribute [local go_sem ↓] Go.wp_at_zero Go.wp_at_succ
theorem conv_own {w : World} {base n c : Nat} {ad : Option Addr} {l : List UInt8} (h : w.ownsRow base 5 1 (.slice ad n c) n (Lib.byteCells l)) :
    (convert 35 9 (.slice ad n c)).run Tryd.prog w = .ok (.string (bs l)) w := by
  have hl : l.length = n := by have := h.1; rw [Lib.byteCells_length] at this; omega
  obtain ⟨b, off, hs⟩ := Own.sl h
  rcases h.2 with ⟨h1, h2⟩ | ⟨g, cap, cur, h1, _⟩
  · obtain ⟨e1, -, e3⟩ := Value.slice.inj h1
    subst e1 e3
    subst h2
    obtain rfl := List.eq_nil_of_length_eq_zero hl
    rw [run_convert_bytes_string _ 35 9 5 _ _ _ Tryd.underlying35 Tryd.underlying5 Tryd.underlying9]
    rfl
  · obtain ⟨e1, -, e3⟩ := Value.slice.inj h1
    subst e1
    subst hl
    refine run_convert_bytes_back _ 35 9 5 ⟨g, 0, none⟩ c l Tryd.underlying35 Tryd.underlying5 Tryd.underlying9 ?_
    intro j hj
    have ha := hs.adr (by omega)
    injection ha with ha
    injection ha with ha1 ha2
    subst ha1 ha2
    have := hs.cell j hj
    rw [show (⟨g, 0, none⟩ : Addr).add j = ⟨g, 0 + j, none⟩ by (simp [Addr.add]; exact fun e => e.symm), this]
    simp [Lib.byteCells, List.getD, List.getElem?_eq_getElem hj]
theorem rstyle_any (w : World) : Calls Tryd.prog 43 #[.int .i64 2] w fun e w' => e = .returned (.bool true) ∧ w = w' := by
  go_enter Tryd.func43, Tryd.ntmps43
  go_wp2_with fail
  go_ret
  exact ⟨rfl, rfl⟩
theorem ext_one (l : List UInt8) {i : Nat} (h : i < l.length) : (bs l).extract i (i + 1) = bs [l.getD i 0] := by
  rw [bs_extract, List.take_succ_eq_append_getElem h]
  have e : (l.take i).length = i := by rw [List.length_take]; omega
  have k := @List.drop_left _ (l.take i) [l[i]]
  rw [e] at k
  rw [k]
  simp [List.getD, List.getElem?_eq_getElem h]
set_option maxRecDepth 20000 in
set_option maxHeartbeats 8000000 in
theorem runescape_any (l : List UInt8) (w : World) (hl : l.length ≤ 100000) : Calls Tryd.prog 30 #[.int .i64 2, .string (bs l)] w (UnP (unescV l) w) := by
  have HSTY := Lib.hid rstyle_any
  obtain ⟨i0, hi, hz0, hz1, hz2⟩ := info_parts Tryd.Builder_Extra_169.infoByte
  have HI := Lib.hid hi
  have HZ0 := Lib.hid hz0
  have HZ1 := Lib.hid hz1
  have HZ2 := Lib.hid hz2
  have hsz : (bs l).size = l.length := bs_size _
  have HSZ := Lib.hid hsz
  have hle : (bs l).size ≤ 100000 := by omega
  have HAT : Hid (∀ (i : Nat) (g : i < (bs l).size), (bs l)[i]'g = l.getD i 0) := fun i g => ba_at l g
  have HEX := Lib.hid (ext_drop l)
  have HE1 := Lib.hid (fun i h => @ext_one l i h)
  generalize hS : bs l = S at *
  generalize hX : unescV l = X at *
  have HX0 := Lib.hid hX
  clear hsz hS hX hi hz0 hz1 hz2
  go_enter Tryd.func30, Tryd.ntmps30
  go_wp2_with fail
  refine (HSTY.out _).mono ?_
  rintro e _ ⟨rfl, rfl⟩
  go_wp2_with fail
  go_loopw [7, 8] (fun o i wr => ∃ (j f : Nat) (acc : List UInt8) (ad : Option Addr) (c : Nat), j ≤ l.length ∧ acc.length ≤ j ∧ l.length - j < f ∧ unescN l f j acc = X ∧ o = .slice ad acc.length c ∧ i = .int .i64 (j : Int) ∧ wr.ownsRow w.heap.size 5 1 (.slice ad acc.length c) acc.length (Lib.byteCells acc) ∧ Below w.heap.size w wr) (fun _ i _ => l.length - (intOf i).toNat)
  case atStart => exact ⟨0, l.length + 1, [], none, 0, Nat.zero_le _, Nat.le_refl _, by omega, HX0.out, rfl, rfl, World.ownsRow_nil _ _ _ _, Below.refl _ _⟩
  case round =>
    obtain ⟨j, f, acc, ad, c, hj, hal, hf, hun, rfl, rfl, hown, hbl⟩ := hrel
    obtain ⟨g, rfl⟩ : ∃ g, f = g + 1 := ⟨f - 1, by omega⟩
    have HUN := Lib.hid hun
    have HOWN := Lib.hid hown
    have HBL := Lib.hid hbl
    have HAL := Lib.hid hal
    have HF := Lib.hid hf
    have hzr := hbl.size
    have halS : acc.length ≤ 100000 := by have := HSZ.out; omega
    clear hown hbl hun hal hf HX0
    by_cases hlt : j < l.length
    · have hN : j < S.size := by rw [HSZ.out]; exact hlt
      have hix : ∀ g : j < S.size, S[j]'g = l.getD j 0 := fun g => HAT.out j g
      have he1 : S.extract j (j + 1) = bs [l.getD j 0] := HE1.out j hlt
      have HJ := Lib.hid hlt
      by_cases h92 : l.getD j 0 = 92
      · rw [h92] at hix he1
        have hcut : S.extract j S.size = bs (l.drop j) := HEX.out j
        have hdl : (l.drop j).length = l.length - j := List.length_drop ..
        have HRC := Lib.hid (fun w => rback_any (l.drop j) (by have := HSZ.out; omega) w)
        obtain ⟨q1, q2, q3⟩ := rbV_len (l.drop j)
        rw [hdl] at q2
        by_cases hk : (rbV (l.drop j)).2 = 0
        · have HBAD : Hid (X = ([], j, 3)) := by unfold Hid; rw [← HUN.out]; exact unescN_bad hlt h92 hk g acc
          have hki : ((rbV (l.drop j)).2 : Int) = 0 := by omega
          clear q1 q2 q3 hdl hk h92
          generalize rbV (l.drop j) = R at *
          generalize bs (l.drop j) = E at *
          go_wp2_with fail
          refine (HRC.out _).mono ?_
          rintro e w2 ⟨rfl, hb2⟩
          have HB2 : Hid (Below w.heap.size w w2) := HBL.out.trans (hb2.mono hzr)
          clear hb2
          go_wp2_with fail
          exact bodyPost_ret (v := .tuple #[.string (bs []), .int .i64 (j : Int), .int .i64 3]) (by simp [results, Tryd.f30, go_sem]; rfl) rfl ⟨by rw [HBAD.out]; rfl, HB2.out⟩
        · have HNX : Hid (unescN l g (j + (rbV (l.drop j)).2) (acc ++ (rbV (l.drop j)).1) = X) := by unfold Hid; rw [← HUN.out]; exact (unescN_esc hlt h92 hk g acc).symm
          have hki : (((rbV (l.drop j)).2 : Int) == 0) = false := by simp only [beq_eq_false_iff_ne]; omega
          have hkb : ((rbV (l.drop j)).2 : Int) ≤ 100000 := by have := HSZ.out; omega
          have HQ : Hid (0 < (rbV (l.drop j)).2 ∧ (rbV (l.drop j)).1.length ≤ (rbV (l.drop j)).2 ∧ j + (rbV (l.drop j)).2 ≤ l.length) := ⟨by omega, q3, by omega⟩
          have HST : Hid ((bs (rbV (l.drop j)).1).size = (rbV (l.drop j)).1.length) := bs_size _
          clear q2 q3 hdl hk h92 hlt
          generalize rbV (l.drop j) = R at *
          obtain ⟨Rt, Rk⟩ := R
          simp only at HRC HQ HNX HST hki hkb q1
          generalize bs (l.drop j) = E at *
          go_wp2_with fail
          refine (HRC.out _).mono ?_
          rintro e w2 ⟨rfl, hb2⟩
          have hzx : w.heap.size ≤ w2.heap.size := Nat.le_trans hzr hb2.size
          have HO2 := Lib.hid (own_below2 HOWN.out hb2)
          have HBX : Hid (Below w.heap.size w w2) := HBL.out.trans (hb2.mono hzr)
          clear hb2
          go_wp2_with (at_builtin; refine Lib.wpList_append_own_string _ rfl _ _ 35 9 rfl w.heap.size 5 i0 Tryd.underlying35 Tryd.underlying9 HI.out HZ0.out HZ1.out HZ2.out _ acc.length _ rfl HO2.out (bs Rt) rfl (by rw [HST.out]; unfold maxLen; omega) (by rw [HST.out]; omega) hzx ?_; intro v' w3 hown3 hgrow _; have HOWN3 := Lib.hid hown3; have HG3 := Lib.hid hgrow; clear hown3 hgrow)
          have hown4 : w3.ownsRow w.heap.size 5 1 v' (acc ++ Rt).length (Lib.byteCells (acc ++ Rt)) := by
            have := HOWN3.out
            rw [HST.out, show Lib.byteCells acc ++ Lib.strCells (bs Rt) = Lib.byteCells (acc ++ Rt) by rw [Lib.strCells_eq, bs_data]; simp [Lib.byteCells]] at this
            rw [List.length_append]
            exact this
          obtain ⟨ad6, c6, rfl⟩ := own_form_k hown4
          have HO6 := Lib.hid hown4
          have HB6 : Hid (Below w.heap.size w w3) := HBX.out.grown HG3.out hzx (fun k hk => (HO2.out.lt k hk).1)
          clear hown4
          go_wp2_with fail
          go_roundw
          case rel => exact ⟨j + Rk, g, acc ++ Rt, ad6, c6, HQ.out.2.2, by have := HAL.out; have := HQ.out.2.1; rw [List.length_append]; omega, by have := HF.out; have := HQ.out; omega, HNX.out, rfl, by go_num, HO6.out, HB6.out⟩
          case measure => have := HQ.out; have := HJ.out; simp [intOf]; omega
      · have g92 : (((l.getD j 0).toNat : Int) == 92) = false := neU h92
        by_cases hfb : l.getD j 0 = 10 ∨ l.getD j 0 = 34
        · have HBAD : Hid (X = ([], j, 3)) := by unfold Hid; rw [← HUN.out]; exact unescN_forb hlt h92 hfb g acc
          clear h92 hlt
          generalize l.getD j 0 = c at *
          rcases hfb with rfl | rfl
          all_goals
            go_wp2_with fail
            exact bodyPost_ret (v := .tuple #[.string (bs []), .int .i64 (j : Int), .int .i64 3]) (by simp [results, Tryd.f30, go_sem]; rfl) rfl ⟨by rw [HBAD.out]; rfl, HBL.out⟩
        · have HNX : Hid (unescN l g (j + 1) (acc ++ [l.getD j 0]) = X) := by unfold Hid; rw [← HUN.out]; exact (unescN_one hlt h92 (fun e => hfb (.inl e)) (fun e => hfb (.inr e)) g acc).symm
          have g10 : (((l.getD j 0).toNat : Int) == 10) = false := neU (fun e => hfb (.inl e))
          have g34 : (((l.getD j 0).toNat : Int) == 34) = false := neU (fun e => hfb (.inr e))
          clear hfb h92
          generalize l.getD j 0 = c at *
          have HS1 : Hid ((bs [c]).size = 1) := bs_size _
          go_wp2_with (at_builtin; refine Lib.wpList_append_own_string _ rfl _ _ 35 9 rfl w.heap.size 5 i0 Tryd.underlying35 Tryd.underlying9 HI.out HZ0.out HZ1.out HZ2.out _ acc.length _ rfl HOWN.out (bs [c]) rfl (by rw [HS1.out]; unfold maxLen; omega) (by rw [HS1.out]; omega) hzr ?_; intro v' w3 hown3 hgrow _; have HOWN3 := Lib.hid hown3; have HG3 := Lib.hid hgrow; clear hown3 hgrow)
          have hown4 : w3.ownsRow w.heap.size 5 1 v' (acc ++ [c]).length (Lib.byteCells (acc ++ [c])) := by
            have := HOWN3.out
            rw [HS1.out, show Lib.byteCells acc ++ Lib.strCells (bs [c]) = Lib.byteCells (acc ++ [c]) by rw [Lib.strCells_eq, bs_data]; simp [Lib.byteCells]] at this
            rw [List.length_append]
            exact this
          obtain ⟨ad6, c6, rfl⟩ := own_form_k hown4
          have HO6 := Lib.hid hown4
          have HB6 : Hid (Below w.heap.size w w3) := HBL.out.grown HG3.out hzr (fun k hk => (HOWN.out.lt k hk).1)
          clear hown4
          go_wp2_with fail
          go_roundw
          case rel => exact ⟨j + 1, g, acc ++ [c], ad6, c6, hlt, by have := HAL.out; simp; omega, by have := HF.out; omega, HNX.out, rfl, by go_num, HO6.out, HB6.out⟩
          case measure => simp [intOf]; omega
    · have HEND : Hid (X = (acc, 0, 0)) := by unfold Hid; rw [← HUN.out]; exact unescN_end hlt (g + 1) acc
      have hN : ¬ j < S.size := by rw [HSZ.out]; exact hlt
      have hcv := conv_own HOWN.out
      go_wp2_with fail
      exact bodyPost_ret (v := .tuple #[.string (bs acc), .int .i64 0, .int .i64 0]) (by simp [results, Tryd.f30, go_sem]) rfl ⟨by rw [HEND.out]; rfl, HBL.out⟩
set_option maxRecDepth 20000 in
set_option maxHeartbeats 4000000 in
theorem rend_any (s : ByteArray) (w : World) (hs : s.size ≤ 1000000) :
    Calls Tryd.prog 29 #[.int .i64 2, .string s, .int .u8 34] w fun e w' => e = .returned (.int .i64 (endV s.data.toList)) ∧ w = w' := by
  have HST := Lib.hid rstyle_any
  have hsl : s.data.toList.length = s.size := ba_len s
  go_enter Tryd.func29, Tryd.ntmps29
  go_wp2_with fail
  refine (HST.out _).mono ?_
  rintro e _ ⟨rfl, rfl⟩
  go_wp2_with fail
  go_loop [7] (fun i => ∃ k : Nat, i = .int .i64 (k : Int) ∧ k ≤ s.size + 1 ∧ endL s.data.toList = (endL (s.data.toList.drop k)).map (· + k)) (fun i => s.size + 1 - (intOf i).toNat)
  case atStart => exact ⟨0, rfl, Nat.zero_le _, by rw [List.drop_zero]; cases endL s.data.toList <;> rfl⟩
  case round =>
    obtain ⟨k, rfl, hk, hinv⟩ := hrel
    have HI := Lib.hid hinv
    clear hinv
    by_cases hlt : k < s.size
    · have hkl : k < s.data.toList.length := by rw [hsl]; exact hlt
      have hget : s[k] = s.data.toList.getD k 0 := by
        simp [List.getD, List.getElem?_eq_getElem hkl]; rfl
      have HD := Lib.hid (drop_at hkl)
      rw [← hget] at HD
      clear hget
      generalize hc : s[k] = c at *
      by_cases h34 : c = 34
      · subst h34
        have HE : Hid (endV s.data.toList = (k : Int)) := endV_some (by rw [HI.out, HD.out, endL_q]; simp)
        go_wp2_with fail
        go_ret
        exact ⟨by rw [HE.out]; rfl, rfl⟩
      · have g34 : ((c.toNat : Int) == 34) = false := neU h34
        by_cases h92 : c = 92
        · subst h92
          have HN : Hid (endL s.data.toList = (endL (s.data.toList.drop (k + 2))).map (· + (k + 2))) := by
            unfold Hid
            by_cases h2 : k + 1 < s.data.toList.length
            · rw [HI.out, HD.out, drop_at h2, endL_esc]
              cases endL (s.data.toList.drop (k + 1 + 1)) <;> simp [Nat.add_comm, Nat.add_left_comm]
            · rw [HI.out, HD.out, List.drop_of_length_le (by omega : s.data.toList.length ≤ k + 1), List.drop_of_length_le (by omega : s.data.toList.length ≤ k + 2)]
              simp [endL]
          clear HD
          go_wp2_with fail
          go_round
          case rel => exact ⟨k + 2, by go_num, by omega, HN.out⟩
          case measure => simp [intOf]; omega
        · have g92 : ((c.toNat : Int) == 92) = false := neU h92
          have HN : Hid (endL s.data.toList = (endL (s.data.toList.drop (k + 1))).map (· + (k + 1))) := by
            unfold Hid
            rw [HI.out, HD.out, endL_one h34 h92]
            cases endL (s.data.toList.drop (k + 1)) <;> simp [Nat.add_comm, Nat.add_left_comm]
          clear HD
          go_wp2_with fail
          go_round
          case rel => exact ⟨k + 1, by go_num, by omega, HN.out⟩
          case measure => simp [intOf]; omega
    · have HE : Hid (endV s.data.toList = -1) := endV_none (by rw [HI.out, List.drop_of_length_le (by omega)]; rfl)
      go_wp2_with fail
      go_ret
      exact ⟨by rw [HE.out]; rfl, rfl⟩
end Go.Proofs.YtpionddponmdmaaDoor
