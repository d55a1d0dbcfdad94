/- Walks: the reference's leaves: fields, letters, the number of patterns. -/
import Derived.Test.YtaolbfbnjbpljaaDoorQ03
import Derived.Test.YtaolbfbnjbpljaaDoorQ06
namespace Go.Proofs.YtaolbfbnjbpljaaDoor
open Go.RowKit
attribute [local go_sem] Ext.cell Ext.frozen
attribute [local go_sem ↓] Go.wp_at_zero Go.wp_at_succ

theorem rfield_no (s : ByteArray) (w : World) (h : isFld s.data.toList = false) : Calls Tryd.prog 29 #[.string s] w fun e w' => e = .returned (.bool false) ∧ w = w' := by
  have hn : ∀ l ∈ fieldL, ¬ s.toList = l := fun l hl e => by
    rw [ByteArray.toList_eq] at e
    unfold isFld at h
    rw [e, List.contains_iff_mem.2 hl] at h
    cases h
  have h1 := hn [121] (by decide)
  have h2 := hn [77] (by decide)
  have h3 := hn [77, 77] (by decide)
  have h4 := hn [77, 77, 77] (by decide)
  have h5 := hn [69] (by decide)
  have h6 := hn [100] (by decide)
  have h7 := hn [100, 100] (by decide)
  clear hn h
  have g1 : (s.toList == [121]) = false := by simpa using h1
  have g2 : (s.toList == [77]) = false := by simpa using h2
  have g3 : (s.toList == [77, 77]) = false := by simpa using h3
  have g4 : (s.toList == [77, 77, 77]) = false := by simpa using h4
  have g5 : (s.toList == [69]) = false := by simpa using h5
  have g6 : (s.toList == [100]) = false := by simpa using h6
  have g7 : (s.toList == [100, 100]) = false := by simpa using h7
  go_enter Tryd.func29, Tryd.ntmps29
  go_wp2_with fail
  go_ret
  exact ⟨rfl, rfl⟩
theorem rfield_yes (l : List UInt8) (w : World) (h : l ∈ fieldL) : Calls Tryd.prog 29 #[.string (bs l)] w fun e w' => e = .returned (.bool true) ∧ w = w' := by
  unfold fieldL at h
  simp only [List.mem_cons, List.not_mem_nil, or_false] at h
  rcases h with h | h | h | h | h | h | h <;> subst h
  all_goals
    unfold bs
    go_enter Tryd.func29, Tryd.ntmps29
    go_wp2_with fail
    go_ret
    exact ⟨rfl, rfl⟩
theorem rfield_any (s : ByteArray) (w : World) : Calls Tryd.prog 29 #[.string s] w fun e w' => e = .returned (.bool (isFld s.data.toList)) ∧ w = w' := by
  cases h : isFld s.data.toList with
  | false => exact rfield_no s w h
  | true => exact rfield_yes s.data.toList w (List.contains_iff_mem.1 h)

theorem order_no (c : UInt8) (w : World) (h : ordL c = -1) : Calls Tryd.prog 30 #[.int .u8 (c.toNat : Int)] w fun e w' => e = .returned (.int .i64 (-1)) ∧ w = w' := by
  have hn : ∀ i, i < 4 → ¬ c = kindsL.getD i 0 := fun i hi e => by
    rw [e, ordL_kind hi] at h; omega
  have hf : ∀ (a : UInt8), ¬ c = a → ((a.toNat : Int) == (c.toNat : Int)) = false := fun a ha => by
    simp only [beq_eq_false_iff_ne, ne_eq, Int.natCast_inj]
    exact fun e => ha (UInt8.toNat.inj e.symm)
  have g0 : ((121 : Int) == (c.toNat : Int)) = false := hf 121 (hn 0 (by omega))
  have g1 : ((77 : Int) == (c.toNat : Int)) = false := hf 77 (hn 1 (by omega))
  have g2 : ((69 : Int) == (c.toNat : Int)) = false := hf 69 (hn 2 (by omega))
  have g3 : ((100 : Int) == (c.toNat : Int)) = false := hf 100 (hn 3 (by omega))
  clear hn hf h
  generalize (c.toNat : Int) = z at *
  have k0 : (((⟨#[121, 77, 69, 100]⟩ : ByteArray)[0].toNat : Int) == z) = false := g0
  have k1 : (((⟨#[121, 77, 69, 100]⟩ : ByteArray)[1].toNat : Int) == z) = false := g1
  have k2 : (((⟨#[121, 77, 69, 100]⟩ : ByteArray)[2].toNat : Int) == z) = false := g2
  have k3 : (((⟨#[121, 77, 69, 100]⟩ : ByteArray)[3].toNat : Int) == z) = false := g3
  clear g0 g1 g2 g3
  go_enter Tryd.func30, Tryd.ntmps30
  go_wp2_with fail
  refine wp_loop_rounds 5 ?_
  rw [rounds_succ]
  go_wp2_with fail
  rw [rounds_succ]
  go_wp2_with fail
  rw [rounds_succ]
  go_wp2_with fail
  rw [rounds_succ]
  go_wp2_with fail
  rw [rounds_succ]
  go_wp2_with fail
  go_ret
  exact ⟨rfl, rfl⟩
theorem order_0 (w : World) : Calls Tryd.prog 30 #[.int .u8 121] w fun e w' => e = .returned (.int .i64 0) ∧ w = w' := by
  go_enter Tryd.func30, Tryd.ntmps30
  go_wp2_with fail
  refine wp_loop_rounds 1 ?_
  rw [rounds_succ]
  go_wp2_with fail
  go_ret
  exact ⟨rfl, rfl⟩
theorem order_1 (w : World) : Calls Tryd.prog 30 #[.int .u8 77] w fun e w' => e = .returned (.int .i64 1) ∧ w = w' := by
  go_enter Tryd.func30, Tryd.ntmps30
  go_wp2_with fail
  refine wp_loop_rounds 2 ?_
  rw [rounds_succ]
  go_wp2_with fail
  rw [rounds_succ]
  go_wp2_with fail
  go_ret
  exact ⟨rfl, rfl⟩
theorem order_2 (w : World) : Calls Tryd.prog 30 #[.int .u8 69] w fun e w' => e = .returned (.int .i64 2) ∧ w = w' := by
  go_enter Tryd.func30, Tryd.ntmps30
  go_wp2_with fail
  refine wp_loop_rounds 3 ?_
  rw [rounds_succ]
  go_wp2_with fail
  rw [rounds_succ]
  go_wp2_with fail
  rw [rounds_succ]
  go_wp2_with fail
  go_ret
  exact ⟨rfl, rfl⟩
theorem order_3 (w : World) : Calls Tryd.prog 30 #[.int .u8 100] w fun e w' => e = .returned (.int .i64 3) ∧ w = w' := by
  go_enter Tryd.func30, Tryd.ntmps30
  go_wp2_with fail
  refine wp_loop_rounds 4 ?_
  rw [rounds_succ]
  go_wp2_with fail
  rw [rounds_succ]
  go_wp2_with fail
  rw [rounds_succ]
  go_wp2_with fail
  rw [rounds_succ]
  go_wp2_with fail
  go_ret
  exact ⟨rfl, rfl⟩
theorem order_any (c : UInt8) (w : World) : Calls Tryd.prog 30 #[.int .u8 (c.toNat : Int)] w fun e w' => e = .returned (.int .i64 (ordL c)) ∧ w = w' := by
  have h := ordL_bd c
  by_cases h0 : ordL c = -1
  · rw [h0]; exact order_no c w h0
  · by_cases h1 : ordL c = (0 : Nat)
    · rw [h1, ordL_at (by omega) h1]; exact order_0 w
    · by_cases h2 : ordL c = (1 : Nat)
      · rw [h2, ordL_at (by omega) h2]; exact order_1 w
      · by_cases h3 : ordL c = (2 : Nat)
        · rw [h3, ordL_at (by omega) h3]; exact order_2 w
        · have h4 : ordL c = (3 : Nat) := by omega
          rw [h4, ordL_at (by omega) h4]; exact order_3 w
end Go.Proofs.YtaolbfbnjbpljaaDoor
/- Walks: the fields of a skeleton, by the reference. -/
namespace Go.Proofs.YtaolbfbnjbpljaaDoor
open Go.RowKit
attribute [local go_sem] Ext.cell Ext.frozen
attribute [local go_sem ↓] Go.wp_at_zero Go.wp_at_succ

/-- the place of the last field -/
def lastP (o : List (List UInt8)) : Int := match o.getLast? with
  | none => -1
  | some f => ordL (f.headD 0)
theorem lastP_snoc (o : List (List UInt8)) (f : List UInt8) : lastP (o ++ [f]) = ordL (f.headD 0) := by unfold lastP; simp
theorem cellsStr2 : Tryd.prog.cellsOf 9 = 1 := by kernel_rfl
theorem u8_ne2 {a b : UInt8} (h : a ≠ b) : ((a.toNat : Int) == (b.toNat : Int)) = false := by
  simp only [beq_eq_false_iff_ne, ne_eq, Int.natCast_inj]
  exact fun e => h (UInt8.toNat.inj e)
theorem lastP_nil : lastP [] = -1 := rfl
theorem rF_nil (n : Nat) (p : Int) : rF n p [] = some [] := by cases n <;> rfl
theorem rF_take {n : Nat} {p : Int} {c : UInt8} {s : List UInt8} (h : isFld ((c :: s).takeWhile (· == c)) = true) (hp : p < ordL c) :
    rF (n + 1) p (c :: s) = (rF n (ordL c) ((c :: s).dropWhile (· == c))).map (((c :: s).takeWhile (· == c)) :: ·) := by rw [rF, if_pos ⟨h, hp⟩]
theorem rF_fail {n : Nat} {p : Int} {c : UInt8} {s : List UInt8} (h : isFld ((c :: s).takeWhile (· == c)) = false) : rF (n + 1) p (c :: s) = none := by rw [rF, if_neg (by rw [h]; simp)]
theorem rF_low {n : Nat} {p : Int} {c : UInt8} {s : List UInt8} (hp : ordL c ≤ p) : rF (n + 1) p (c :: s) = none := by rw [rF, if_neg (fun h => by have := h.2; omega)]
theorem fld_ord {c : UInt8} {s : List UInt8} (h : isFld (c :: s) = true) : 0 ≤ ordL c := by
  unfold isFld fieldL at h
  rw [List.contains_iff_mem] at h
  simp only [List.mem_cons, List.not_mem_nil, or_false, List.cons.injEq] at h
  rcases h with h | h | h | h | h | h | h <;> (obtain ⟨rfl, _⟩ := h; decide)
/-- a run of one character -/
theorem tw_at {c : UInt8} : ∀ {l : List UInt8} {k : Nat}, k < (l.takeWhile (· == c)).length → l.getD k 0 = c
  | [], _, h => by simp at h
  | a :: l, k, h => by
    rw [List.takeWhile_cons] at h
    by_cases ha : a = c
    · rw [if_pos (by simpa using ha)] at h
      cases k with
      | zero => exact ha
      | succ k => simp at h; simpa using tw_at (l := l) (k := k) (by omega)
    · rw [if_neg (by simpa using ha)] at h; simp at h
theorem tw_end {c : UInt8} : ∀ {l : List UInt8}, (l.takeWhile (· == c)).length < l.length → l.getD (l.takeWhile (· == c)).length 0 ≠ c
  | [], h => by simp at h
  | a :: l, h => by
    rw [List.takeWhile_cons] at h ⊢
    by_cases ha : a = c
    · rw [if_pos (by simpa using ha)] at h ⊢
      simp at h ⊢
      simpa using tw_end (l := l) h
    · rw [if_neg (by simpa using ha)]; simpa using ha
theorem ba_getD (s : ByteArray) (k : Nat) (h : k < s.size) : s[k] = s.data.toList.getD k 0 := by
  rw [List.getD_eq_getElem?_getD, List.getElem?_eq_getElem (by rw [size_len]; exact h)]; rfl
theorem drop_getD (l : List UInt8) (i k : Nat) : (l.drop i).getD k 0 = l.getD (i + k) 0 := by
  simp [List.getD_eq_getElem?_getD, List.getElem?_drop]
theorem ext_run (s : ByteArray) (i : Nat) (T D : List UInt8) (h : s.data.toList.drop i = T ++ D) : s.extract i (i + T.length) = bs T := by
  apply ba_eq
  rw [ext_data, bs_data, ← List.take_drop, h, List.take_left]

set_option maxRecDepth 20000 in
set_option maxHeartbeats 16000000 in
theorem rfields_any (s : ByteArray) (w : World) (hs : s.size ≤ 1000) : Calls Tryd.prog 10 #[.string s] w (FieldsPost s.data.toList w) := by
  have HF := Lib.hid rfield_any
  have HO := Lib.hid order_any
  have hsl : s.data.toList.length = s.size := size_len s
  have HRE := Lib.hid (rfields_eq s.data.toList)
  have HIX := Lib.hid (fun (w : World) ad n xs b off k (h : SlAt w ad n xs b off) (hk : k < n) (c : Nat) (W : World) => SlAt.ix (c := c) h 23 9 Tryd.underlying23 cellsStr2 hk W)
  go_enter Tryd.func10, Tryd.ntmps10
  go_wp2_with fail
  go_loopw [4, 5] (fun v u wr => ∃ (i n : Nat) (o : List (List UInt8)) (ad : Option Addr) (c : Nat), u = .int .i64 (i : Int) ∧ i ≤ s.size ∧ s.size - i ≤ n ∧ o.length ≤ i ∧ (∀ f ∈ o, isFld f = true) ∧
      rF s.data.toList.length (-1) s.data.toList = (rF n (lastP o) (s.data.toList.drop i)).map (o ++ ·) ∧ v = .slice ad o.length c ∧ wr.ownsRow w.heap.size 9 1 (.slice ad o.length c) o.length (strs (o.map bs)) ∧ Below w.heap.size w wr) (fun _ u _ => s.size - (intOf u).toNat)
  case atStart => exact ⟨0, s.size, [], none, 0, rfl, by omega, by omega, by simp, by simp, by rw [hsl, lastP_nil]; simp, rfl, World.ownsRow_nil _ _ _ _, Below.refl _ _⟩
  case round =>
    obtain ⟨i, n, o, ad, c0, rfl, his, hin, hol, hof, hr, rfl, hown, hbl⟩ := hrel
    have HR := Lib.hid hr
    have HOF := Lib.hid hof
    have HOWN := Lib.hid hown
    have HBL := Lib.hid hbl
    have hzr := hbl.size
    clear hr hof hown hbl
    by_cases hi : i < s.size
    · obtain ⟨n, rfl⟩ : ∃ q, n = q + 1 := ⟨n - 1, by omega⟩
      obtain ⟨ch, rr, hdr⟩ : ∃ ch rr, s.data.toList.drop i = ch :: rr := by
        cases h : s.data.toList.drop i with
        | nil => rw [List.drop_eq_nil_iff] at h; omega
        | cons a b => exact ⟨a, b, rfl⟩
      rw [hdr] at HR
      have hch : s[i] = ch := by
        rw [ba_getD s i hi]
        have := drop_getD s.data.toList i 0
        rw [hdr] at this
        exact this.symm
      have hsp : ch :: rr = (ch :: rr).takeWhile (· == ch) ++ (ch :: rr).dropWhile (· == ch) := (List.takeWhile_append_dropWhile ..).symm
      have hdl := congrArg List.length hdr
      rw [List.length_drop, hsl] at hdl
      have hll := congrArg List.length hsp
      rw [List.length_append] at hll
      have hT0 : 0 < ((ch :: rr).takeWhile (· == ch)).length := by rw [List.takeWhile_cons, if_pos (by simp)]; simp
      have HEX := Lib.hid (ext_run s i _ _ (hdr.trans hsp))
      have HDD : Hid (s.data.toList.drop (i + ((ch :: rr).takeWhile (· == ch)).length) = (ch :: rr).dropWhile (· == ch)) := by
        unfold Hid
        rw [← List.drop_drop, hdr]
        conv => lhs; arg 2; rw [hsp]
        rw [List.drop_left]
      have HAT : Hid (∀ j, i ≤ j → j < i + ((ch :: rr).takeWhile (· == ch)).length → ∃ h : j < s.size, (s[j].toNat : Int) = (s[i].toNat : Int)) := fun j h1 h2 => by
        have hj : j < s.size := by omega
        refine ⟨hj, ?_⟩
        have := tw_at (c := ch) (l := ch :: rr) (k := j - i) (by omega)
        rw [← hdr, drop_getD, show i + (j - i) = j by omega] at this
        rw [ba_getD s j hj, this, hch]
      have HEN : Hid (∀ h : i + ((ch :: rr).takeWhile (· == ch)).length < s.size, ((s[i + ((ch :: rr).takeWhile (· == ch)).length].toNat : Int) == (s[i].toNat : Int)) = false) := fun h => by
        have := tw_end (c := ch) (l := ch :: rr) (by omega)
        rw [← hdr, drop_getD, hdr] at this
        rw [ba_getD s _ h, hch]
        exact u8_ne2 this
      have HTH : Hid (((ch :: rr).takeWhile (· == ch)).headD 0 = ch) := by unfold Hid; rw [List.takeWhile_cons, if_pos (by simp)]; rfl
      have HTK := Lib.hid (fun h1 h2 => rF_take (n := n) (p := lastP o) (c := ch) (s := rr) h1 h2)
      have HFA := Lib.hid (fun h1 => rF_fail (n := n) (p := lastP o) (c := ch) (s := rr) h1)
      have HLO := Lib.hid (fun h1 => rF_low (n := n) (p := lastP o) (c := ch) (s := rr) h1)
      have HFO : Hid (isFld ((ch :: rr).takeWhile (· == ch)) = true → 0 ≤ ordL ch) := fun h => by
        rw [List.takeWhile_cons, if_pos (by simp)] at h; exact fld_ord h
      have hrl : (ch :: rr).length = rr.length + 1 := rfl
      clear hsp hdr
      generalize hT : (ch :: rr).takeWhile (· == ch) = T at *
      generalize hD : (ch :: rr).dropWhile (· == ch) = D at *
      clear hT hD
      obtain ⟨k2, hk2⟩ : ∃ k2, i + T.length = k2 := ⟨_, rfl⟩
      have hk2s : k2 ≤ s.size := by omega
      have hik : i < k2 := by omega
      rw [hk2] at HEX HDD HAT HEN
      have HK2 := Lib.hid hk2
      have hnk : s.size - k2 ≤ n := by omega
      clear hk2 hll hdl hT0 hrl hin
      go_wp2_with fail
      obtain ⟨wo, rfl⟩ : ∃ wo : World, wo = wr := ⟨_, rfl⟩
      go_loopw [6] (fun v wr => ∃ j : Nat, v = .int .i64 (j : Int) ∧ i ≤ j ∧ j ≤ k2 ∧ Below wo.heap.size wo wr) (fun v _ => k2 - (intOf v).toNat)
      case atStart => exact ⟨i, rfl, by omega, by omega, Below.refl _ _⟩
      case round =>
        obtain ⟨j, rfl, hj1, hj2, hbi⟩ := hrel
        have HBI := Lib.hid hbi
        have hzi := hbi.size
        clear hbi
        by_cases hlt : j < k2
        · obtain ⟨hjs, hje⟩ := HAT.out j hj1 hlt
          clear hch
          go_wp2_with fail
          refine wp_region_ext (by kernel_rfl) (by kernel_rfl) ?_
          repeat (go_big_quiet_step (fail))
          refine wpQuiet_nil ?_
          intro _ hw'
          obtain ⟨X9, hw''⟩ := hw'
          subst hw''
          have HXI := Lib.hid (HBI.out.trans (X9.2.mono hzi))
          go_wp2_with fail
          go_roundw
          case rel => exact ⟨j + 1, by go_num, by omega, by omega, HXI.out⟩
          case measure => simp [intOf]; omega
        · obtain rfl : j = k2 := by omega
          have HBL2 := Lib.hid (HBL.out.trans (HBI.out.mono hzr))
          have HOWN2 := Lib.hid (Own.below HOWN.out HBI.out)
          clear HBL HOWN HBI
          have HBL := Lib.hid HBL2.out
          have HOWN := Lib.hid HOWN2.out
          have hzr : w.heap.size ≤ wr.heap.size := by omega
          clear HBL2 HOWN2
          have HFT := Lib.hid (fun w => HF.out (bs T) w)
          rw [bs_data] at HFT
          have HCH : Hid (ordL s[i] = ordL ch) := by unfold Hid; rw [hch]
          clear hch
          by_cases hend : j < s.size
          · have hne := HEN.out hend
            clear HAT HEN
            go_wp2_with fail
            refine wp_region_ext (by kernel_rfl) (by kernel_rfl) ?_
            repeat (go_big_quiet_step (fail))
            refine wpQuiet_nil ?_
            intro _ hw'
            obtain ⟨X8, hw''⟩ := hw'
            subst hw''
            have HBL2 := Lib.hid (HBL.out.trans (X8.2.mono hzr))
            have HOWN2 := Lib.hid (Own.below HOWN.out X8.2)
            have hzr2 : w.heap.size ≤ X8.1.heap.size := by have := X8.2.size; omega
            obtain ⟨V, hV⟩ := X8
            simp only at HBL2 HOWN2 hzr2 ⊢
            clear HBL HOWN hzr hV hzi
            have HBL := Lib.hid HBL2.out
            have HOWN := Lib.hid HOWN2.out
            have hzr := hzr2
            clear HBL2 HOWN2 hzr2
            have hij : (i : Int) ≤ (j : Int) := by omega
            have hexo := HEX.out
            cases hfl : isFld T with
            | false =>
              have HV : Hid (fieldsV s.data.toList = none) := by unfold Hid; rw [← HRE.out]; unfold rfieldsV; rw [HR.out, HFA.out hfl]; rfl
              rw [hfl] at HFT
              clear HTK HFA HLO HFO hfl
              generalize bs T = TB at *
              go_wp2_with fail
              refine wp_region_ext (by kernel_rfl) (by kernel_rfl) ?_
              repeat (go_big_quiet_step ((go_at_call 29; exact Calls.ext_same (HFT.out _))))
              refine wpQuiet_nil ?_
              intro _ hw'
              obtain ⟨X9, hw''⟩ := hw'
              subst hw''
              have HX9 := Lib.hid (HBL.out.trans (X9.2.mono hzr))
              go_wp2_with fail
              go_ret2
              exact ⟨HX9.out, .inl ⟨HV.out, rfl⟩⟩
            | true =>
              have hco := HFO.out hfl
              have HFT2 := Lib.hid HFT.out
              rw [hfl] at HFT2
              have HOF2 : Hid (∀ f ∈ o ++ [T], isFld f = true) := fun f hm => by
                rcases List.mem_append.1 hm with hm | hm
                · exact HOF.out f hm
                · rw [List.mem_singleton.1 hm]; exact hfl
              have HAPP : Hid (strs ((o ++ [T]).map bs) = strs (o.map bs) ++ [.string (bs T)]) := by unfold Hid; rw [List.map_append]; exact strs_snoc _ _
              have HLEN : Hid ((o ++ [T]).length = o.length + 1) := by unfold Hid; simp
              have HLP : Hid (lastP (o ++ [T]) = ordL ch) := by unfold Hid; rw [lastP_snoc, HTH.out]
              have HR2 : Hid (lastP o < ordL ch → rF s.data.toList.length (-1) s.data.toList = (rF n (lastP (o ++ [T])) (s.data.toList.drop j)).map ((o ++ [T]) ++ ·)) := fun h => by
                rw [HR.out, HTK.out hfl h, HLP.out, HDD.out, Option.map_map]
                congr 1
                funext z
                simp
              have HVL : Hid (ordL ch ≤ lastP o → fieldsV s.data.toList = none) := fun h => by rw [← HRE.out]; unfold rfieldsV; rw [HR.out, HLO.out h]; rfl
              clear HTK HFA HLO HFO hfl HFT
              rcases List.eq_nil_or_concat o with ho | ⟨o1, f, ho⟩
              · have HR3 := Lib.hid (HR2.out (by rw [ho, lastP_nil]; omega))
                have hl0 : o.length = 0 := by rw [ho]; rfl
                clear HR2 HVL ho
                generalize hOL : o.length = OL at *
                subst hl0
                generalize hTB : bs T = TB at *
                have HTB := Lib.hid hTB
                clear hTB
                go_wp2_with fail
                refine wp_region_ext (by kernel_rfl) (by kernel_rfl) ?_
                repeat (go_big_quiet_step ((go_at_call 29; exact Calls.ext_same (HFT2.out _))))
                refine wpQuiet_nil ?_
                intro _ hw'
                obtain ⟨X9, hw''⟩ := hw'
                subst hw''
                have HX9 := Lib.hid (HBL.out.trans (X9.2.mono hzr))
                have HOX := Lib.hid (Own.below HOWN.out X9.2)
                have hzx : w.heap.size ≤ X9.1.heap.size := by have := X9.2.size; omega
                obtain ⟨X, hX⟩ := X9
                simp only at HX9 HOX hzx ⊢
                clear hX
                go_wp2_with (at_builtin; refine appStr rfl _ _ rfl w.heap.size _ _ _ _ rfl HOX.out _ _ rfl rfl (by unfold maxLen; omega) (by omega) hzx ?_; intro ad6 c6 w3 hown3 hb3 hg3 hz3; have HOWN3 := Lib.hid hown3; have HB3 := Lib.hid hb3; clear hown3 hb3 hg3 hz3)
                go_roundw
                case rel => exact ⟨j, n, o ++ [T], ad6, c6, rfl, hk2s, hnk, by rw [HLEN.out]; omega, HOF2.out, HR3.out, by rw [HLEN.out], by rw [HAPP.out, HLEN.out]; exact HOWN3.out, HX9.out.trans HB3.out⟩
                case measure => simp [intOf]; omega
              · have hq : o.length = o1.length + 1 := by rw [ho]; simp
                have HLQ : Hid (lastP o = ordL (f.headD 0)) := by unfold Hid; rw [ho, List.concat_eq_append, lastP_snoc]
                have hfF : isFld f = true := HOF.out f (by rw [ho]; simp)
                obtain ⟨g0, g1, hg⟩ : ∃ g0 g1, f = g0 :: g1 := by
                  cases f with
                  | nil => exact absurd hfF (by decide)
                  | cons a b => exact ⟨a, b, rfl⟩
                subst hg
                obtain ⟨b, off, hsa⟩ := Own.sl HOWN.out
                rw [hq] at hsa
                have hcell := hsa.cell o1.length (by omega)
                rw [strs_getD _ _ (by rw [List.length_map, hq]; omega)] at hcell
                have hfb : (o.map bs).getD o1.length .empty = bs (g0 :: g1) := by rw [ho]; simp
                rw [hfb] at hcell
                have hblk := hsa.block (by omega)
                have hix := fun W => HIX.out _ _ _ _ _ _ o1.length hsa (by omega) c0 W
                have hg0 : 0 < (bs (g0 :: g1)).size := by rw [bs_size]; simp
                have hgb : (bs (g0 :: g1))[0]'hg0 = g0 := rfl
                have HGB : Hid (ordL ((bs (g0 :: g1))[0]'hg0) = ordL g0) := rfl
                have HLQ2 : Hid (lastP o = ordL g0) := HLQ.out
                clear hfb hsa hfF HLQ ho hgb
                generalize o1.length = q at *
                have hOB : q + 1 ≤ 1000 := by omega
                have hwq : IntKind.i64.wrap (((q + 1 : Nat) : Int) - 1) = (q : Int) := by rw [IntWalk.i64_in _ (by omega)]; omega
                have hwq2 : ((q + 1 : Nat) : Int) - 1 = (q : Int) := by omega
                have hwq3 : (q : Int) + 1 - 1 = (q : Int) := by omega
                have hqp : decide ((0 : Int) < ((q + 1 : Nat) : Int)) = true := by rw [decide_eq_true_eq]; omega
                have hqp2 : decide ((0 : Int) < (q : Int) + 1) = true := by rw [decide_eq_true_eq]; omega
                generalize hOL : o.length = OL at *
                subst hq
                generalize hTB : bs T = TB at *
                have HTB := Lib.hid hTB
                clear hTB
                generalize bs (g0 :: g1) = GB at *
                by_cases hle : ordL ch ≤ lastP o
                · have HV := Lib.hid (HVL.out hle)
                  have hle2 : ordL s[i] ≤ ordL (GB[0]'hg0) := by rw [HCH.out, HGB.out, ← HLQ2.out]; exact hle
                  clear HR2 HVL hle
                  go_wp2_with fail
                  refine wp_region_ext (by kernel_rfl) (by kernel_rfl) ?_
                  repeat (go_big_quiet_step ((first | (go_at_call 29; exact Calls.ext_same (HFT2.out _)) | (go_at_call 30; exact Calls.ext_same (HO.out _ _)))))
                  refine wpQuiet_nil ?_
                  intro _ hw'
                  obtain ⟨X9, hw''⟩ := hw'
                  subst hw''
                  have HX9 := Lib.hid (HBL.out.trans (X9.2.mono hzr))
                  go_wp2_with fail
                  go_ret2
                  exact ⟨HX9.out, .inl ⟨HV.out, rfl⟩⟩
                · have HR3 := Lib.hid (HR2.out (by omega))
                  have hle2 : ¬ ordL s[i] ≤ ordL (GB[0]'hg0) := by rw [HCH.out, HGB.out, ← HLQ2.out]; exact hle
                  clear HR2 HVL hle
                  go_wp2_with fail
                  refine wp_region_ext (by kernel_rfl) (by kernel_rfl) ?_
                  repeat (go_big_quiet_step ((first | (go_at_call 29; exact Calls.ext_same (HFT2.out _)) | (go_at_call 30; exact Calls.ext_same (HO.out _ _)))))
                  refine wpQuiet_nil ?_
                  intro _ hw'
                  obtain ⟨X9, hw''⟩ := hw'
                  subst hw''
                  have HX9 := Lib.hid (HBL.out.trans (X9.2.mono hzr))
                  have HOX := Lib.hid (Own.below HOWN.out X9.2)
                  have hzx : w.heap.size ≤ X9.1.heap.size := by have := X9.2.size; omega
                  obtain ⟨X, hX⟩ := X9
                  simp only at HX9 HOX hzx ⊢
                  clear hX hix hcell
                  go_wp2_with (at_builtin; refine appStr rfl _ _ rfl w.heap.size _ _ _ _ rfl HOX.out _ _ rfl rfl (by unfold maxLen; omega) (by omega) hzx ?_; intro ad6 c6 w3 hown3 hb3 hg3 hz3; have HOWN3 := Lib.hid hown3; have HB3 := Lib.hid hb3; clear hown3 hb3 hg3 hz3)
                  go_roundw
                  case rel => exact ⟨j, n, o ++ [T], ad6, c6, rfl, hk2s, hnk, by rw [HLEN.out]; omega, HOF2.out, HR3.out, by rw [HLEN.out], by rw [HAPP.out, HLEN.out]; exact HOWN3.out, HX9.out.trans HB3.out⟩
                  case measure => simp [intOf]; omega
          · skip
            clear HAT HEN
            go_wp2_with fail
            refine wp_region_ext (by kernel_rfl) (by kernel_rfl) ?_
            repeat (go_big_quiet_step (fail))
            refine wpQuiet_nil ?_
            intro _ hw'
            obtain ⟨X8, hw''⟩ := hw'
            subst hw''
            have HBL2 := Lib.hid (HBL.out.trans (X8.2.mono hzr))
            have HOWN2 := Lib.hid (Own.below HOWN.out X8.2)
            have hzr2 : w.heap.size ≤ X8.1.heap.size := by have := X8.2.size; omega
            obtain ⟨V, hV⟩ := X8
            simp only at HBL2 HOWN2 hzr2 ⊢
            clear HBL HOWN hzr hV hzi
            have HBL := Lib.hid HBL2.out
            have HOWN := Lib.hid HOWN2.out
            have hzr := hzr2
            clear HBL2 HOWN2 hzr2
            have hij : (i : Int) ≤ (j : Int) := by omega
            have hexo := HEX.out
            cases hfl : isFld T with
            | false =>
              have HV : Hid (fieldsV s.data.toList = none) := by unfold Hid; rw [← HRE.out]; unfold rfieldsV; rw [HR.out, HFA.out hfl]; rfl
              rw [hfl] at HFT
              clear HTK HFA HLO HFO hfl
              generalize bs T = TB at *
              go_wp2_with fail
              refine wp_region_ext (by kernel_rfl) (by kernel_rfl) ?_
              repeat (go_big_quiet_step ((go_at_call 29; exact Calls.ext_same (HFT.out _))))
              refine wpQuiet_nil ?_
              intro _ hw'
              obtain ⟨X9, hw''⟩ := hw'
              subst hw''
              have HX9 := Lib.hid (HBL.out.trans (X9.2.mono hzr))
              go_wp2_with fail
              go_ret2
              exact ⟨HX9.out, .inl ⟨HV.out, rfl⟩⟩
            | true =>
              have hco := HFO.out hfl
              have HFT2 := Lib.hid HFT.out
              rw [hfl] at HFT2
              have HOF2 : Hid (∀ f ∈ o ++ [T], isFld f = true) := fun f hm => by
                rcases List.mem_append.1 hm with hm | hm
                · exact HOF.out f hm
                · rw [List.mem_singleton.1 hm]; exact hfl
              have HAPP : Hid (strs ((o ++ [T]).map bs) = strs (o.map bs) ++ [.string (bs T)]) := by unfold Hid; rw [List.map_append]; exact strs_snoc _ _
              have HLEN : Hid ((o ++ [T]).length = o.length + 1) := by unfold Hid; simp
              have HLP : Hid (lastP (o ++ [T]) = ordL ch) := by unfold Hid; rw [lastP_snoc, HTH.out]
              have HR2 : Hid (lastP o < ordL ch → rF s.data.toList.length (-1) s.data.toList = (rF n (lastP (o ++ [T])) (s.data.toList.drop j)).map ((o ++ [T]) ++ ·)) := fun h => by
                rw [HR.out, HTK.out hfl h, HLP.out, HDD.out, Option.map_map]
                congr 1
                funext z
                simp
              have HVL : Hid (ordL ch ≤ lastP o → fieldsV s.data.toList = none) := fun h => by rw [← HRE.out]; unfold rfieldsV; rw [HR.out, HLO.out h]; rfl
              clear HTK HFA HLO HFO hfl HFT
              rcases List.eq_nil_or_concat o with ho | ⟨o1, f, ho⟩
              · have HR3 := Lib.hid (HR2.out (by rw [ho, lastP_nil]; omega))
                have hl0 : o.length = 0 := by rw [ho]; rfl
                clear HR2 HVL ho
                generalize hOL : o.length = OL at *
                subst hl0
                generalize hTB : bs T = TB at *
                have HTB := Lib.hid hTB
                clear hTB
                go_wp2_with fail
                refine wp_region_ext (by kernel_rfl) (by kernel_rfl) ?_
                repeat (go_big_quiet_step ((go_at_call 29; exact Calls.ext_same (HFT2.out _))))
                refine wpQuiet_nil ?_
                intro _ hw'
                obtain ⟨X9, hw''⟩ := hw'
                subst hw''
                have HX9 := Lib.hid (HBL.out.trans (X9.2.mono hzr))
                have HOX := Lib.hid (Own.below HOWN.out X9.2)
                have hzx : w.heap.size ≤ X9.1.heap.size := by have := X9.2.size; omega
                obtain ⟨X, hX⟩ := X9
                simp only at HX9 HOX hzx ⊢
                clear hX
                go_wp2_with (at_builtin; refine appStr rfl _ _ rfl w.heap.size _ _ _ _ rfl HOX.out _ _ rfl rfl (by unfold maxLen; omega) (by omega) hzx ?_; intro ad6 c6 w3 hown3 hb3 hg3 hz3; have HOWN3 := Lib.hid hown3; have HB3 := Lib.hid hb3; clear hown3 hb3 hg3 hz3)
                go_roundw
                case rel => exact ⟨j, n, o ++ [T], ad6, c6, rfl, hk2s, hnk, by rw [HLEN.out]; omega, HOF2.out, HR3.out, by rw [HLEN.out], by rw [HAPP.out, HLEN.out]; exact HOWN3.out, HX9.out.trans HB3.out⟩
                case measure => simp [intOf]; omega
              · have hq : o.length = o1.length + 1 := by rw [ho]; simp
                have HLQ : Hid (lastP o = ordL (f.headD 0)) := by unfold Hid; rw [ho, List.concat_eq_append, lastP_snoc]
                have hfF : isFld f = true := HOF.out f (by rw [ho]; simp)
                obtain ⟨g0, g1, hg⟩ : ∃ g0 g1, f = g0 :: g1 := by
                  cases f with
                  | nil => exact absurd hfF (by decide)
                  | cons a b => exact ⟨a, b, rfl⟩
                subst hg
                obtain ⟨b, off, hsa⟩ := Own.sl HOWN.out
                rw [hq] at hsa
                have hcell := hsa.cell o1.length (by omega)
                rw [strs_getD _ _ (by rw [List.length_map, hq]; omega)] at hcell
                have hfb : (o.map bs).getD o1.length .empty = bs (g0 :: g1) := by rw [ho]; simp
                rw [hfb] at hcell
                have hblk := hsa.block (by omega)
                have hix := fun W => HIX.out _ _ _ _ _ _ o1.length hsa (by omega) c0 W
                have hg0 : 0 < (bs (g0 :: g1)).size := by rw [bs_size]; simp
                have hgb : (bs (g0 :: g1))[0]'hg0 = g0 := rfl
                have HGB : Hid (ordL ((bs (g0 :: g1))[0]'hg0) = ordL g0) := rfl
                have HLQ2 : Hid (lastP o = ordL g0) := HLQ.out
                clear hfb hsa hfF HLQ ho hgb
                generalize o1.length = q at *
                have hOB : q + 1 ≤ 1000 := by omega
                have hwq : IntKind.i64.wrap (((q + 1 : Nat) : Int) - 1) = (q : Int) := by rw [IntWalk.i64_in _ (by omega)]; omega
                have hwq2 : ((q + 1 : Nat) : Int) - 1 = (q : Int) := by omega
                have hwq3 : (q : Int) + 1 - 1 = (q : Int) := by omega
                have hqp : decide ((0 : Int) < ((q + 1 : Nat) : Int)) = true := by rw [decide_eq_true_eq]; omega
                have hqp2 : decide ((0 : Int) < (q : Int) + 1) = true := by rw [decide_eq_true_eq]; omega
                generalize hOL : o.length = OL at *
                subst hq
                generalize hTB : bs T = TB at *
                have HTB := Lib.hid hTB
                clear hTB
                generalize bs (g0 :: g1) = GB at *
                by_cases hle : ordL ch ≤ lastP o
                · have HV := Lib.hid (HVL.out hle)
                  have hle2 : ordL s[i] ≤ ordL (GB[0]'hg0) := by rw [HCH.out, HGB.out, ← HLQ2.out]; exact hle
                  clear HR2 HVL hle
                  go_wp2_with fail
                  refine wp_region_ext (by kernel_rfl) (by kernel_rfl) ?_
                  repeat (go_big_quiet_step ((first | (go_at_call 29; exact Calls.ext_same (HFT2.out _)) | (go_at_call 30; exact Calls.ext_same (HO.out _ _)))))
                  refine wpQuiet_nil ?_
                  intro _ hw'
                  obtain ⟨X9, hw''⟩ := hw'
                  subst hw''
                  have HX9 := Lib.hid (HBL.out.trans (X9.2.mono hzr))
                  go_wp2_with fail
                  go_ret2
                  exact ⟨HX9.out, .inl ⟨HV.out, rfl⟩⟩
                · have HR3 := Lib.hid (HR2.out (by omega))
                  have hle2 : ¬ ordL s[i] ≤ ordL (GB[0]'hg0) := by rw [HCH.out, HGB.out, ← HLQ2.out]; exact hle
                  clear HR2 HVL hle
                  go_wp2_with fail
                  refine wp_region_ext (by kernel_rfl) (by kernel_rfl) ?_
                  repeat (go_big_quiet_step ((first | (go_at_call 29; exact Calls.ext_same (HFT2.out _)) | (go_at_call 30; exact Calls.ext_same (HO.out _ _)))))
                  refine wpQuiet_nil ?_
                  intro _ hw'
                  obtain ⟨X9, hw''⟩ := hw'
                  subst hw''
                  have HX9 := Lib.hid (HBL.out.trans (X9.2.mono hzr))
                  have HOX := Lib.hid (Own.below HOWN.out X9.2)
                  have hzx : w.heap.size ≤ X9.1.heap.size := by have := X9.2.size; omega
                  obtain ⟨X, hX⟩ := X9
                  simp only at HX9 HOX hzx ⊢
                  clear hX hix hcell
                  go_wp2_with (at_builtin; refine appStr rfl _ _ rfl w.heap.size _ _ _ _ rfl HOX.out _ _ rfl rfl (by unfold maxLen; omega) (by omega) hzx ?_; intro ad6 c6 w3 hown3 hb3 hg3 hz3; have HOWN3 := Lib.hid hown3; have HB3 := Lib.hid hb3; clear hown3 hb3 hg3 hz3)
                  go_roundw
                  case rel => exact ⟨j, n, o ++ [T], ad6, c6, rfl, hk2s, hnk, by rw [HLEN.out]; omega, HOF2.out, HR3.out, by rw [HLEN.out], by rw [HAPP.out, HLEN.out]; exact HOWN3.out, HX9.out.trans HB3.out⟩
                  case measure => simp [intOf]; omega
    · obtain rfl : i = s.size := by omega
      have hdn : s.data.toList.drop s.size = [] := by rw [List.drop_eq_nil_iff]; omega
      have HV : Hid (fieldsV s.data.toList = if o = [] then none else some o) := by
        unfold Hid
        rw [← HRE.out]
        unfold rfieldsV
        rw [HR.out, hdn, rF_nil]
        simp
      clear hdn
      cases o with
      | nil =>
        go_wp2_with fail
        go_ret2
        exact ⟨HBL.out, .inl ⟨HV.out, rfl⟩⟩
      | cons f0 o1 =>
        have hlp : 0 < (f0 :: o1).length := by simp
        have hl0 : decide (((f0 :: o1).length : Int) = 0) = false := by simp; omega
        have hl1 : (((f0 :: o1).length : Int) == 0) = false := by simp; omega
        generalize hq : f0 :: o1 = o at *
        have hne : o ≠ [] := by rw [← hq]; simp
        clear hq
        have HV2 : Hid (fieldsV s.data.toList = some o) := by unfold Hid; rw [HV.out, if_neg hne]
        clear hne
        go_wp2_with fail
        go_ret2
        exact ⟨HBL.out, .inr ⟨o, ad, c0, HV2.out, rfl, HOWN.out⟩⟩
end Go.Proofs.YtaolbfbnjbpljaaDoor
