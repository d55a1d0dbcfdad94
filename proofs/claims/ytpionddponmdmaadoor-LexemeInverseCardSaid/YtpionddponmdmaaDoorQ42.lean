/- Walk: the reference's Tokens, of any string. -/
import Derived.Test.YtpionddponmdmaaDoorQ41
import Derived.Test.YtpionddponmdmaaDoorQ34
import Derived.Deep.DeepCutAuto
import Derived.Test.YtpionddponmdmaaDoorQ32
namespace Go.Proofs.YtpionddponmdmaaDoor
open Go.RowKit
attribute [local go_sem] Ext.cell Ext.frozen
attribute [local go_sem ↓] Go.wp_at_zero Go.wp_at_succ
theorem wordLen_mem {l : List UInt8} {i : Nat} (hi : i < l.length) : 0 < wordLen (l.drop i) ↔ l.getD i 0 ∈ innerL := by
  have hd := drop_at hi
  unfold wordLen
  rw [hd, List.takeWhile_cons]
  by_cases h : l.getD i 0 ∈ innerL
  · rw [if_pos (by simpa using h)]
    exact ⟨fun _ => h, fun _ => by simp⟩
  · rw [if_neg (by simpa using h)]
    exact ⟨fun h2 => absurd h2 (by simp), fun h2 => absurd h2 h⟩
theorem quoted_errsT (l : List UInt8) (i : Nat) : (quotedV l i).2.2.2 ≤ 100 := by
  cases hn : endL (l.drop (i + 1)) with
  | none => rw [quotedV_none hn]; show (3 : Nat) ≤ 100; omega
  | some n =>
    rw [quotedV_some hn]
    split
    · show (3 : Nat) ≤ 100; omega
    · split
      · show (6 : Nat) ≤ 100; omega
      · split
        · show (4 : Nat) ≤ 100; omega
        · show (0 : Nat) ≤ 100; omega
theorem next_errsT (l : List UInt8) (i : Nat) : (nextV l i).2.2.2 ≤ 100 := by
  unfold nextV
  split
  · show (0 : Nat) ≤ 100; omega
  · split
    · exact quoted_errsT l i
    · split
      · show (3 : Nat) ≤ 100; omega
      · split
        · show (6 : Nat) ≤ 100; omega
        · show (0 : Nat) ≤ 100; omega
/-- the token at a place, in the reference's order of asking -/
theorem next_word {l : List UInt8} {i : Nat} (hi : i < l.length) (h : 0 < wordLen (l.drop i)) :
    nextV l i = if 40 < wordLen (l.drop i) then badN i 6 else ((1, (l.drop i).take (wordLen (l.drop i)), i), wordLen (l.drop i), 0, 0) := by
  have hm := (wordLen_mem hi).1 h
  have k1 : ∀ c ∈ innerL, c ∉ marksL ∧ c ≠ 34 := by decide
  obtain ⟨h1, h2⟩ := k1 _ hm
  unfold nextV
  rw [if_neg h1, if_neg h2, if_neg (by omega)]
theorem next_quote {l : List UInt8} {i : Nat} (h : l.getD i 0 = 34) : nextV l i = quotedV l i := by
  unfold nextV
  rw [if_neg (by rw [h]; decide), if_pos h]
theorem next_mark {l : List UInt8} {i : Nat} (h : l.getD i 0 ∈ marksL) : nextV l i = ((3, [l.getD i 0], i), 1, 0, 0) := by
  unfold nextV
  rw [if_pos h]
theorem next_else {l : List UInt8} {i : Nat} (h : ¬ 0 < wordLen (l.drop i)) (h1 : l.getD i 0 ≠ 34) (h2 : l.getD i 0 ∉ marksL) : nextV l i = badN i 3 := by
  unfold nextV
  rw [if_neg h2, if_neg h1, if_pos (by omega)]
def RTokP (l : List UInt8) (w : World) (e : Ending) (w' : World) : Prop :=
  Below w.heap.size w w' ∧ ∃ M, RunP l M ∧ M ≤ l.length + 1 ∧
    (((∀ k, k < M → (itemV l k).2.2.2 = 0) ∧ ∃ ad c, e = .returned (.tuple #[.slice ad M c, .int .i64 0, .int .i64 0]) ∧ w'.ownsRow w.heap.size 50 3 (.slice ad M c) M (tkCells (upto (itemV l) M))) ∨
     (0 < M ∧ (itemV l (M - 1)).2.2.2 ≠ 0 ∧ e = .returned (.tuple #[.slice none 0 0, .int .i64 ((itemV l (M - 1)).2.2.1 : Int), .int .i64 ((itemV l (M - 1)).2.2.2 : Int)])))
theorem rtok_bad {l : List UInt8} {w : World} {M k : Nat} (hrun : RunP l M) (hMl : M ≤ l.length + 1) (hk : k < M) {x : Nx} (hx : itemV l k = x) (he : x.2.2.2 ≠ 0) {w' : World} (hb : Below w.heap.size w w') :
    RTokP l w (.returned (.tuple #[.slice none 0 0, .int .i64 (x.2.2.1 : Int), .int .i64 (x.2.2.2 : Int)])) w' := by
  have hM : M = k + 1 := by
    rcases Nat.lt_or_ge (k + 1) M with h | h
    · exact absurd (hrun.2.1 k h) (by rw [hx]; exact he)
    · omega
  subst hM
  exact ⟨hb, k + 1, hrun, hMl, .inr ⟨by omega, by rw [show k + 1 - 1 = k from rfl, hx]; exact he, by rw [show k + 1 - 1 = k from rfl, hx]⟩⟩
set_option maxRecDepth 20000 in
set_option maxHeartbeats 8000000 in
theorem rtokens_any (l : List UInt8) (hl : l.length ≤ 100000) (w : World) : Calls Tryd.prog 9 #[.string (bs l)] w (RTokP l w) := by
  obtain ⟨i0, hi, hz0, hz1, hz2⟩ := info_parts infoRt
  have HI := Lib.hid hi
  have HZ0 := Lib.hid hz0
  have HZ1 := Lib.hid hz1
  have HZ2 := Lib.hid hz2
  obtain ⟨M, hrun, hMl⟩ := run_exists l
  have HRUN := Lib.hid hrun
  have HML := Lib.hid hMl
  have hMb : M ≤ 100001 := by omega
  have hsz : (bs l).size = l.length := bs_size l
  have HSZ := Lib.hid hsz
  have hle : (bs l).size ≤ 100000 := by omega
  have HAT : Hid (∀ (i : Nat) (g : i < (bs l).size), (bs l)[i]'g = l.getD i 0) := fun i g => ba_at l g
  have HSK := Lib.hid (fun i hi w => rskip_any l i hi hl w)
  have HWD := Lib.hid (fun i w => rword_any (l.drop i) (by rw [List.length_drop]; omega) w)
  have HQT := Lib.hid (fun i hi w => rquoted_any l i hi hl w)
  have HEX := Lib.hid (ext_drop l)
  have HCE := Lib.hid (ext_from l)
  have HS0 := Lib.hid (HSK.out 0 (Nat.zero_le _) w)
  rw [Nat.zero_add, List.drop_zero] at HS0
  have hs0 := skipAt_le l (Nat.zero_le l.length)
  have HP0 : Hid (posV l 0 = skipS false l) := by show 0 + skipS false (l.drop 0) = _; rw [List.drop_zero, Nat.zero_add]
  generalize bs l = S at *
  clear hi hz0 hz1 hz2 hrun hMl hsz
  go_enter Tryd.func9, Tryd.ntmps9
  go_wp2_with fail
  refine HS0.out.mono ?_
  rintro e _ ⟨rfl, rfl⟩
  go_wp2_with fail
  go_loopw [5, 6] (fun v i wr => ∃ (k : Nat) (ad : Option Addr) (c : Nat), i = .int .i64 (posV l k : Int) ∧ k ≤ M ∧ posV l k ≤ l.length ∧ v = .slice ad k c ∧ (∀ q, q < k → (itemV l q).2.2.2 = 0) ∧ wr.ownsRow w.heap.size 50 3 (.slice ad k c) k (tkCells (upto (itemV l) k)) ∧ Below w.heap.size w wr) (fun _ i _ => l.length - (intOf i).toNat)
  case atStart => exact ⟨0, none, 0, by rw [HP0.out], Nat.zero_le _, hs0, rfl, fun q h => absurd h (Nat.not_lt_zero _), World.ownsRow_nil _ _ _ _, Below.refl _ _⟩
  case round =>
    obtain ⟨k, ad, c, rfl, hkM, hpl, rfl, hok, hown, hbl⟩ := hrel
    have HOK := Lib.hid hok
    have HOWN := Lib.hid hown
    have HBL := Lib.hid hbl
    have hzr := hbl.size
    clear hok hown hbl HS0 HP0 hs0
    by_cases hlt : k < M
    · have hpl2 := HRUN.out.1 k hlt
      have hnl : posV l k + (itemV l k).2.1 ≤ l.length := next_len l _ hpl2
      have hnp : (itemV l k).2.2.2 = 0 → 1 ≤ (itemV l k).2.1 := next_pos l _
      have HPS : Hid (posV l (k + 1) = skipAt l (posV l k + (itemV l k).2.1)) := rfl
      have HUP : Hid (upto (itemV l) (k + 1) = upto (itemV l) k ++ [itemV l k]) := upto_succ _ _
      have HIT : Hid (∀ q, q < k + 1 → (itemV l k).2.2.2 = 0 → (itemV l q).2.2.2 = 0) := fun q hq h => by
        by_cases e : q = k
        · subst e; exact h
        · exact HOK.out q (by omega)
      have HIV : Hid (itemV l k = nextV l (posV l k)) := rfl
      have HBAD := Lib.hid (fun x hx he w' hb => @rtok_bad l w M k HRUN.out HML.out hlt x hx he w' hb)
      generalize hp : posV l k = p at *
      have hps : p < S.size := by rw [HSZ.out]; exact hpl2
      have hat : ∀ g : p < S.size, S[p]'g = l.getD p 0 := fun g => HAT.out p g
      have hex := HEX.out p
      have HW := Lib.hid (HWD.out p)
      have hwl := wordLen_le (l.drop p)
      rw [List.length_drop] at hwl
      have HWM := Lib.hid (wordLen_mem hpl2)
      by_cases hw0 : 0 < wordLen (l.drop p)
      · by_cases hw4 : 40 < wordLen (l.drop p)
        · have HX := Lib.hid (HBAD.out (badN p 6) (by rw [HIV.out, next_word hpl2 hw0, if_pos hw4]) (by show (6 : Nat) ≠ 0; decide))
          have g1 : 40 < ((wordLen (l.drop p) : Nat) : Int) := by omega
          generalize wordLen (l.drop p) = n at *
          generalize bs (l.drop p) = E at *
          clear HBAD HIT HUP HPS HIV hnp hnl hw0 hw4
          go_wp2_with fail
          refine (HW.out _).mono ?_
          rintro e _ ⟨rfl, rfl⟩
          go_wp2_with fail
          exact bodyPost_ret (v := .tuple #[.slice none 0 0, .int .i64 (p : Int), .int .i64 6]) (by simp [results, Tryd.f9, go_sem]) rfl (HX.out _ HBL.out)
        · have HX : Hid (itemV l k = ((1, (l.drop p).take (wordLen (l.drop p)), p), wordLen (l.drop p), 0, 0)) := by unfold Hid; rw [HIV.out, next_word hpl2 hw0, if_neg hw4]
          rw [HX.out] at HPS HUP HIT
          have g1 : ¬ 40 < ((wordLen (l.drop p) : Nat) : Int) := by omega
          have g2 : 0 < ((wordLen (l.drop p) : Nat) : Int) := by omega
          have hcut := HCE.out p (wordLen (l.drop p))
          have hpw : p + wordLen (l.drop p) ≤ l.length := by omega
          have HSKP := Lib.hid (HSK.out (p + wordLen (l.drop p)) hpw)
          have hsk2 := skipAt_le l hpw
          have HSA : Hid (skipAt l (p + wordLen (l.drop p)) = p + wordLen (l.drop p) + skipS false (l.drop (p + wordLen (l.drop p)))) := rfl
          rw [← HSA.out] at HSKP
          have HSG : Hid (p < skipAt l (p + wordLen (l.drop p))) := by unfold Hid; rw [HSA.out]; omega
          simp only at HPS HUP HIT
          have HFE : Hid (∀ q, q < k + 1 → (itemV l q).2.2.2 = 0) := fun q hq => HIT.out q hq trivial
          have hps4 : p + wordLen (l.drop p) ≤ S.size := by rw [HSZ.out]; exact hpw
          clear HBAD HIT HIV hnp hnl hw0 hw4 HX HSA HWM
          generalize (l.drop p).take (wordLen (l.drop p)) = X at *
          generalize wordLen (l.drop p) = n at *
          generalize bs (l.drop p) = E at *
          generalize hXB : bs X = XB at *
          have HXB := Lib.hid hXB
          clear hXB
          go_wp2_with fail
          refine (HW.out _).mono ?_
          rintro e _ ⟨rfl, rfl⟩
          go_wp2_with (at_builtin; refine wpList_app3 27 50 Tryd.underlying27 i0 _ HI.out HZ0.out HZ1.out HZ2.out rfl rfl _ _ rfl w.heap.size ad k c _ rfl HOWN.out _ _ _ _ rfl rfl rfl rfl (by omega) hzr ?_; intro ad6 c6 w3 hown3 hb3 hg3 hz3; have HOWN3 := Lib.hid hown3; have HB3 := Lib.hid hb3; clear hown3 hb3 hg3 hz3)
          refine (HSKP.out _).mono ?_
          rintro e _ ⟨rfl, rfl⟩
          go_wp2_with fail
          go_roundw
          case rel => exact ⟨k + 1, ad6, c6, by rw [HPS.out], hlt, by rw [HPS.out]; exact hsk2, rfl, HFE.out, by rw [HUP.out, tkCells_snoc]; show w3.ownsRow _ _ 3 _ _ (_ ++ [Value.int .i64 1, .string (bs X), .int .i64 (p : Int)]); rw [HXB.out]; exact HOWN3.out, HBL.out.trans HB3.out⟩
          case measure => have := HSG.out; simp [intOf]; omega
      · by_cases h34 : l.getD p 0 = 34
        · have HQ := Lib.hid (HQT.out p hpl2)
          have HIQ : Hid (itemV l k = quotedV l p) := by unfold Hid; rw [HIV.out, next_quote h34]
          rw [← HIQ.out] at HQ
          have g2 : ¬ 0 < ((wordLen (l.drop p) : Nat) : Int) := by omega
          have g1 : ¬ 40 < ((wordLen (l.drop p) : Nat) : Int) := by omega
          have HSKP := Lib.hid (HSK.out (p + (itemV l k).2.1) hnl)
          have hsk2 := skipAt_le l hnl
          have HSA : Hid (skipAt l (p + (itemV l k).2.1) = p + (itemV l k).2.1 + skipS false (l.drop (p + (itemV l k).2.1))) := rfl
          rw [← HSA.out] at HSKP
          have HSG : Hid (1 ≤ (itemV l k).2.1 → p < skipAt l (p + (itemV l k).2.1)) := fun h => by rw [HSA.out]; omega
          have hq6 : (itemV l k).2.2.2 ≤ 100 := next_errsT l _
          have HX := Lib.hid (HBAD.out (itemV l k) rfl)
          rw [h34] at hat
          clear HBAD HIV hw0 HSA HWM HIQ h34
          generalize itemV l k = Y at *
          obtain ⟨⟨y0, y1, y2⟩, y3, y4, y5⟩ := Y
          simp only [rqR] at HQ HX HPS HUP HIT HSKP hsk2 HSG hnl hnp hq6
          generalize wordLen (l.drop p) = n at *
          generalize bs (l.drop p) = E at *
          by_cases hy5 : y5 = 0
          rotate_left
          · have g5 : ((y5 : Int) == 0) = false := by simp only [beq_eq_false_iff_ne]; omega
            have g6 : ((y5 : Int) != 0) = true := by unfold bne; rw [g5]; rfl
            rw [if_neg hy5] at HQ
            have HX2 := Lib.hid (HX.out hy5)
            clear HX HPS HUP HIT HSKP HSG hnp hy5
            go_wp2_with fail
            refine (HW.out _).mono ?_
            rintro e _ ⟨rfl, rfl⟩
            go_wp2_with fail
            refine (HQ.out _).mono ?_
            rintro e w2 ⟨rfl, hb2⟩
            have HB2 : Hid (Below w.heap.size w (w2.alloc (.cells #[.int .i64 (y0 : Int), .string (bs y1), .int .i64 (y2 : Int)] 50))) := (HBL.out.trans (hb2.mono hzr)).alloc (Nat.le_trans hzr hb2.size) _
            clear hb2
            go_wp2_with fail
            exact bodyPost_ret (v := .tuple #[.slice none 0 0, .int .i64 (y4 : Int), .int .i64 (y5 : Int)]) (by simp [results, Tryd.f9, go_sem]) rfl (HX2.out _ HB2.out)
          · subst hy5
            rw [if_pos rfl] at HQ
            have hy3 := hnp rfl
            have HFE : Hid (∀ q, q < k + 1 → (itemV l q).2.2.2 = 0) := fun q hq => HIT.out q hq rfl
            replace HSG := Lib.hid (HSG.out hy3)
            have hps4 : p + y3 ≤ S.size := by rw [HSZ.out]; exact hnl
            have HYB : Hid (∃ b, b = bs y1) := ⟨_, rfl⟩
            clear HX HIT hnp
            rw [show ((p + y3 : Nat) : Int) = (p : Int) + (y3 : Int) by omega] at HQ HSKP
            go_wp2_with fail
            refine (HW.out _).mono ?_
            rintro e _ ⟨rfl, rfl⟩
            go_wp2_with fail
            refine (HQ.out _).mono ?_
            rintro e w2 ⟨rfl, hb2⟩
            have hz2 : w.heap.size ≤ w2.heap.size := Nat.le_trans hzr hb2.size
            have HB2 : Hid (Below w.heap.size w w2) := HBL.out.trans (hb2.mono hzr)
            have HO2 := Lib.hid (own_below2 HOWN.out hb2)
            clear hb2
            go_upto_region 16 with (fail)
            refine wp_at_worldH ?_
            intro V hV
            have KX : Hid (V.heap[w2.heap.size]? = some (.cells #[.int .i64 (y0 : Int), .string (bs y1), .int .i64 (y2 : Int)] 50 (0, 0))) := by rw [hV]; exact row_new _ _ _
            have HBV : Hid (Below w.heap.size w V) := by rw [hV]; exact HB2.out.alloc hz2 _
            have HOV : Hid (V.ownsRow w.heap.size 50 3 (.slice ad k c) k (tkCells (upto (itemV l) k))) := by rw [hV]; exact World.ownsRow.alloc HO2.out _
            have t0 := row_cells KX.out 0
            have t1 := row_cells KX.out 1
            have t2 := row_cells KX.out 2
            have hzV := HBV.out.size
            clear hV
            go_wp2_with (at_builtin; refine wpList_app3 27 50 Tryd.underlying27 i0 _ HI.out HZ0.out HZ1.out HZ2.out rfl rfl _ _ rfl w.heap.size ad k c _ rfl HOV.out _ _ _ _ rfl rfl rfl rfl (by omega) hzV ?_; intro ad6 c6 w3 hown3 hb3 hg3 hz3; have HOWN3 := Lib.hid hown3; have HB3 := Lib.hid hb3; clear hown3 hb3 hg3 hz3)
            refine (HSKP.out _).mono ?_
            rintro e _ ⟨rfl, rfl⟩
            go_wp2_with fail
            go_roundw
            case rel => exact ⟨k + 1, ad6, c6, by rw [HPS.out], hlt, by rw [HPS.out]; exact hsk2, rfl, HFE.out, by rw [HUP.out, tkCells_snoc]; exact HOWN3.out, HBV.out.trans HB3.out⟩
            case measure => have := HSG.out; simp [intOf]; omega
        · have g34 : (((l.getD p 0).toNat : Int) == 34) = false := neU h34
          have HMK := Lib.hid (rmark_any (l.getD p 0))
          have g2 : ¬ 0 < ((wordLen (l.drop p) : Nat) : Int) := by omega
          have g1 : ¬ 40 < ((wordLen (l.drop p) : Nat) : Int) := by omega
          by_cases hm : l.getD p 0 ∈ marksL
          · have HX : Hid (itemV l k = ((3, [l.getD p 0], p), 1, 0, 0)) := by unfold Hid; rw [HIV.out, next_mark hm]
            rw [HX.out] at HPS HUP HIT
            rw [decide_eq_true hm] at HMK
            have hcut : S.extract p (p + 1) = bs [l.getD p 0] := by
              have := HCE.out p 1
              rw [drop_at hpl2] at this
              exact this
            have hpw : p + 1 ≤ l.length := by omega
            have HSKP := Lib.hid (HSK.out (p + 1) hpw)
            have hsk2 := skipAt_le l hpw
            have HSA : Hid (skipAt l (p + 1) = p + 1 + skipS false (l.drop (p + 1))) := rfl
            rw [← HSA.out] at HSKP
            have HSG : Hid (p < skipAt l (p + 1)) := by unfold Hid; rw [HSA.out]; omega
            simp only at HPS HUP HIT
            have HFE : Hid (∀ q, q < k + 1 → (itemV l q).2.2.2 = 0) := fun q hq => HIT.out q hq trivial
            have hps4 : p + 1 ≤ S.size := by rw [HSZ.out]; exact hpw
            clear HBAD HIT HIV hnp hnl hw0 HX HSA HWM hm h34
            generalize hXB : bs [l.getD p 0] = XB at *
            generalize hX : [l.getD p 0] = X at *
            have HXB := Lib.hid hXB
            generalize l.getD p 0 = ch at *
            generalize wordLen (l.drop p) = n at *
            generalize bs (l.drop p) = E at *
            clear hX hXB
            go_wp2_with fail
            refine (HW.out _).mono ?_
            rintro e _ ⟨rfl, rfl⟩
            go_wp2_with fail
            refine (HMK.out _).mono ?_
            rintro e _ ⟨rfl, rfl⟩
            go_wp2_with (at_builtin; refine wpList_app3 27 50 Tryd.underlying27 i0 _ HI.out HZ0.out HZ1.out HZ2.out rfl rfl _ _ rfl w.heap.size ad k c _ rfl HOWN.out _ _ _ _ rfl rfl rfl rfl (by omega) hzr ?_; intro ad6 c6 w3 hown3 hb3 hg3 hz3; have HOWN3 := Lib.hid hown3; have HB3 := Lib.hid hb3; clear hown3 hb3 hg3 hz3)
            refine (HSKP.out _).mono ?_
            rintro e _ ⟨rfl, rfl⟩
            go_wp2_with fail
            go_roundw
            case rel => exact ⟨k + 1, ad6, c6, by rw [HPS.out], hlt, by rw [HPS.out]; exact hsk2, rfl, HFE.out, by rw [HUP.out, tkCells_snoc]; show w3.ownsRow _ _ 3 _ _ (_ ++ [Value.int .i64 3, .string (bs X), .int .i64 (p : Int)]); rw [HXB.out]; exact HOWN3.out, HBL.out.trans HB3.out⟩
            case measure => have := HSG.out; simp [intOf]; omega
          · have HX := Lib.hid (HBAD.out (badN p 3) (by rw [HIV.out, next_else hw0 h34 hm]) (by show (3 : Nat) ≠ 0; decide))
            rw [decide_eq_false hm] at HMK
            clear HBAD HIT HUP HPS HIV hnp hnl hw0 hm h34 HWM
            generalize l.getD p 0 = ch at *
            generalize wordLen (l.drop p) = n at *
            generalize bs (l.drop p) = E at *
            go_wp2_with fail
            refine (HW.out _).mono ?_
            rintro e _ ⟨rfl, rfl⟩
            go_wp2_with fail
            refine (HMK.out _).mono ?_
            rintro e _ ⟨rfl, rfl⟩
            go_wp2_with fail
            exact bodyPost_ret (v := .tuple #[.slice none 0 0, .int .i64 (p : Int), .int .i64 3]) (by simp [results, Tryd.f9, go_sem]) rfl (HX.out _ HBL.out)
    · obtain rfl : k = M := by omega
      have hpe : ¬ posV l k < S.size := by
        rw [HSZ.out]
        rcases HRUN.out.2.2 with ⟨h, _⟩ | ⟨h1, h2⟩
        · omega
        · exact absurd (HOK.out (k - 1) (by omega)) h2
      go_wp2_with fail
      exact bodyPost_ret (v := .tuple #[.slice ad k c, .int .i64 0, .int .i64 0]) (by simp [results, Tryd.f9, go_sem]) rfl ⟨HBL.out, k, HRUN.out, HML.out, .inl ⟨HOK.out, ad, c, rfl, HOWN.out⟩⟩
end Go.Proofs.YtpionddponmdmaaDoor
/- LexemeTokens: Tokens returns the specified tokens, or the specified offset and error. -/
namespace Go.Proofs.YtpionddponmdmaaDoor
open Go.RowKit
attribute [local go_sem] Ext.cell Ext.frozen
attribute [local go_sem ↓] Go.wp_at_zero Go.wp_at_succ
theorem run_same {l : List UInt8} {M N : Nat} (h : RunP l M) (k : RunP l N) : M = N := by
  rcases k.2.2 with ⟨h1, h2⟩ | ⟨h1, h2⟩
  · exact run_unique h (fun q hq => ⟨k.1 q hq, h2 q hq⟩) h1
  · exact run_bad h h1 k.1 k.2.1 h2
theorem tkAt_nil (w : World) : TkAt w none 0 [] 0 0 := ⟨rfl, Nat.zero_le _, fun h => absurd rfl h, fun _i hi => absurd hi (Nat.not_lt_zero _), fun _i hi => absurd hi (Nat.not_lt_zero _), fun _i hi => absurd hi (Nat.not_lt_zero _)⟩
theorem sameT_refl (pl : Bool) (xs : List Nx) : sameT pl xs xs = true := decide_eq_true rfl
set_option maxRecDepth 20000 in
set_option maxHeartbeats 8000000 in
theorem lexemeTokens_walk (s : ByteArray) (w : World) (hsm : s.size ≤ 9223372036854775807) (hM : MaxLen w) (hU : TabU w) : Calls Tryd.prog 3 #[.string s] w fun e w' => e = .returned (.bool true) ∧ Below w.heap.size w w' := by
  have HA := Lib.hid (fun w' (h : Below w.heap.size w w') => awake_any w' (hM.below h) (hU.below h))
  by_cases hs : s.size ≤ 2000
  rotate_left
  · have hsi : 2000 < (s.size : Int) := by omega
    clear hM hU
    go_enter Tryd.func3, Tryd.ntmps3
    go_wp2_with fail
    refine (HA.out _ (Below.refl _ _)).mono ?_
    rintro e w1 ⟨rfl, hb1⟩
    have HB1 := Lib.hid hb1
    clear hb1
    go_wp2_with fail
    refine (HA.out _ HB1.out).mono ?_
    rintro e w2 ⟨rfl, hb2⟩
    have HB2 : Hid (Below w.heap.size w w2) := HB1.out.trans (hb2.mono HB1.out.size)
    clear hb2
    go_wp2_with fail
    go_ret
    exact ⟨rfl, HB2.out⟩
  have hsi : ¬ 2000 < (s.size : Int) := by omega
  obtain ⟨l, hl⟩ : ∃ l, s.data.toList = l := ⟨_, rfl⟩
  obtain rfl : s = bs l := by rw [← hl]; rfl
  clear hl
  have hsz : (bs l).size = l.length := bs_size l
  have hl2 : l.length ≤ 2000 := by omega
  have HTK := Lib.hid (fun w' (h : Below w.heap.size w w') => tokens_any l (by omega) w' (hM.below h) (hU.below h))
  have HRT := Lib.hid (fun w' => rtokens_any l (by omega) w')
  have hsb : (bs l).size ≤ 2000 := hs
  clear hM hU hsz
  generalize bs l = S at *
  go_enter Tryd.func3, Tryd.ntmps3
  go_wp2_with fail
  refine (HA.out _ (Below.refl _ _)).mono ?_
  rintro e w1 ⟨rfl, hb1⟩
  have HB1 := Lib.hid hb1
  clear hb1
  go_wp2_with fail
  refine (HTK.out _ HB1.out).mono ?_
  rintro e w2 ⟨hb2, M, hrun, hMl, hor⟩
  have HB2 : Hid (Below w.heap.size w w2) := HB1.out.trans (hb2.mono HB1.out.size)
  have HRUN := Lib.hid hrun
  clear hb2 hrun
  rcases hor with ⟨hok, ad, c, rfl, hown⟩ | ⟨h0, h6, rfl⟩
  · obtain ⟨b1, tk1⟩ := own_tk hown (by omega)
    have HT1 := Lib.hid tk1
    have HOK := Lib.hid hok
    clear hown tk1 hok
    go_wp2_with fail
    refine (HRT.out _).mono ?_
    rintro e w3 ⟨hb3, K, hrun3, hK, hor3⟩
    obtain rfl := run_same HRUN.out hrun3
    rcases hor3 with ⟨-, ad3, c3, rfl, hown3⟩ | ⟨h0, h6, -⟩
    rotate_left
    · exact absurd (HOK.out (M - 1) (by omega)) h6
    obtain ⟨b3, tk3⟩ := own_tk hown3 (by omega)
    have HT3 := Lib.hid tk3
    have HT1b := Lib.hid (HT1.out.below hb3)
    have HB3 : Hid (Below w.heap.size w w3) := HB2.out.trans (hb3.mono HB2.out.size)
    generalize hx : upto (itemV l) M = X at *
    have HLX : Hid (X.length = M) := by unfold Hid; rw [← hx, upto_length]
    have hMb : M ≤ 2001 := by omega
    clear hown3 hb3 tk3 hrun3 hK hx hMl
    go_wp2_with fail
    refine (fromtk_any ad M c X w3 b1 0 HT1b.out).mono ?_
    rintro e w4 ⟨ad4, c4, rfl, own4, hb4⟩
    rw [HLX.out] at own4 ⊢
    obtain ⟨b4, tk4⟩ := own_tk own4 (by omega)
    have HT4 := Lib.hid tk4
    have HT3b := Lib.hid (HT3.out.below hb4)
    have HB4 : Hid (Below w.heap.size w w4) := HB3.out.trans (hb4.mono HB3.out.size)
    clear own4 hb4 tk4
    go_wp2_with fail
    refine (sametk_any ad4 M c4 X b4 0 ad3 M c3 X b3 0 true w4 HT4.out HT3b.out).mono ?_
    rintro e w5 ⟨rfl, hb5⟩
    rw [sameT_refl]
    have HB5 : Hid (Below w.heap.size w w5) := HB4.out.trans (hb5.mono HB4.out.size)
    clear hb5
    go_wp2_with fail
    go_ret
    exact ⟨rfl, HB5.out⟩
  · have HH := Lib.hid h6
    generalize hfe : (itemV l (M - 1)).2.2.2 = fe at *
    generalize hfa : (itemV l (M - 1)).2.2.1 = fa at *
    have HFE := Lib.hid hfe
    have HFA := Lib.hid hfa
    have h6i : ((fe : Int) == (fe : Int)) = true := by simp
    have h6j : ((fa : Int) == (fa : Int)) = true := by simp
    clear hfe hfa h6
    go_wp2_with fail
    refine (HRT.out _).mono ?_
    rintro e w3 ⟨hb3, K, hrun3, hK, hor3⟩
    obtain rfl := run_same HRUN.out hrun3
    rcases hor3 with ⟨hok3, _⟩ | ⟨-, -, rfl⟩
    · exact absurd (HFE.out.symm.trans (hok3 (M - 1) (by omega))) HH.out
    rw [HFE.out, HFA.out]
    have HB3 : Hid (Below w.heap.size w w3) := HB2.out.trans (hb3.mono HB2.out.size)
    clear hb3 hrun3 hK hMl h0
    go_wp2_with fail
    refine (fromtk_any none 0 0 [] w3 0 0 (tkAt_nil w3)).mono ?_
    rintro e w4 ⟨ad4, c4, rfl, own4, hb4⟩
    obtain ⟨b4, tk4⟩ := own_tk own4 (by simp)
    have HT4 := Lib.hid tk4
    have HB4 : Hid (Below w.heap.size w w4) := HB3.out.trans (hb4.mono HB3.out.size)
    clear own4 hb4 tk4
    go_wp2_with fail
    refine (sametk_any ad4 0 c4 [] b4 0 none 0 0 [] 0 0 true w4 HT4.out (tkAt_nil w4)).mono ?_
    rintro e w5 ⟨rfl, hb5⟩
    rw [sameT_refl]
    have HB5 : Hid (Below w.heap.size w w5) := HB4.out.trans (hb5.mono HB4.out.size)
    clear hb5
    go_wp2_with fail
    go_ret
    exact ⟨rfl, HB5.out⟩
end Go.Proofs.YtpionddponmdmaaDoor
