/- Walks: conditions, the program's parser: the next token. -/
import Derived.Test.YtmleeodfmmpdgaaGreatDoorQ13
import Derived.Test.YtmleeodfmmpdgaaGreatDoorQ14
import Derived.LoopN
namespace Go.Proofs.YtmleeodfmmpdgaaGreatDoor
open Go.RowKit
attribute [local go_sem] Ext.cell Ext.frozen
attribute [local go_sem ↓] Go.wp_at_zero Go.wp_at_succ
theorem wp_at_worldB {P : Program} {c : Code} {Q : Exit → Act → World → Prop} {a : Act} {w : World} (h : ∀ W, W = w → c.wp P Q a W) : c.wp P Q a w := h w rfl
theorem hp_any (s p : ByteArray) (w : World) : Calls Tryz.prog 316 #[.string s, .string p] w fun e w' => e = .returned (.bool (p.data.toList.isPrefixOf s.data.toList)) ∧ w = w' :=
  (Any.strings_HasPrefix Tryz.lays99 s p w).mono fun _ _ ⟨h1, h2⟩ => ⟨h1, h2.symm⟩
theorem cStB : Tryz.prog.cellsOf 9 = 1 := by kernel_rfl
/-- the marks, in the order of the program -/
def marksC : List (List UInt8) := [[46, 46], [33, 61], [37], [61], [44]]
theorem tokC_mark {c : UInt8} {r : List UInt8} (h1 : lowB c = false) (h2 : digB c = false) : tokC (c :: r) = (marksC.find? fun m => m.isPrefixOf (c :: r)).getD [] := by
  rw [tokC, if_neg (by rw [h1]; simp), if_neg (by rw [h2]; simp)]
  have e : ∀ a : UInt8, (a == c) = decide (c = a) := fun a => by
    rw [Bool.eq_iff_iff, beq_iff_eq, decide_eq_true_eq]
    exact eq_comm
  have key : ∀ a b : UInt8, List.isPrefixOf [a, b] (c :: r) = (decide (c = a) && decide (r.head? = some b)) := fun a b => by
    cases r with
    | nil => simp [List.isPrefixOf]
    | cons d r =>
      simp only [List.isPrefixOf, List.head?_cons, Option.some.injEq, Bool.and_true, e]
      congr 1
      rw [Bool.eq_iff_iff, beq_iff_eq, decide_eq_true_eq]
      exact eq_comm
  have key1 : ∀ a : UInt8, List.isPrefixOf [a] (c :: r) = decide (c = a) := fun a => by simp only [List.isPrefixOf, Bool.and_true, e]
  unfold marksC
  simp only [List.find?_cons, key, key1, List.find?_nil]
  by_cases g1 : c = 46
  · subst g1
    by_cases g2 : r.head? = some 46
    · simp [g2]
    · simp [g2]
  · by_cases g3 : c = 33
    · subst g3
      by_cases g2 : r.head? = some 61
      · simp [g2]
      · simp [g2]
    · by_cases g4 : c = 37
      · subst g4; simp
      · by_cases g5 : c = 61
        · subst g5; simp
        · by_cases g6 : c = 44
          · subst g6; simp
          · simp [g1, g3, g4, g5, g6]
theorem find_ix {α : Type} {p : α → Bool} {d : α} : ∀ {l : List α} {k : Nat}, (∀ j, j < k → p (l.getD j d) = false) → k < l.length → p (l.getD k d) = true → l.find? p = some (l.getD k d)
  | [], _, _, hk, _ => absurd hk (Nat.not_lt_zero _)
  | x :: l, 0, _, _, hp => by
    have : p x = true := hp
    rw [List.find?_cons_of_pos this]; rfl
  | x :: l, k + 1, h, hk, hp => by
    have h0 : p x = false := h 0 (Nat.succ_pos _)
    rw [List.find?_cons_of_neg (by rw [h0]; simp)]
    have := find_ix (l := l) (k := k) (d := d) (fun j hj => h (j + 1) (by omega)) (by simpa using hk) hp
    rw [this]; rfl
theorem find_nix {α : Type} {p : α → Bool} {d : α} {l : List α} (h : ∀ j, j < l.length → p (l.getD j d) = false) : l.find? p = none := by
  rw [List.find?_eq_none]
  intro x hx hpx
  obtain ⟨j, hj, rfl⟩ := List.getElem_of_mem hx
  have := h j hj
  rw [List.getD_eq_getElem?_getD, List.getElem?_eq_getElem hj] at this
  simp only [Option.getD_some] at this
  rw [this] at hpx
  cases hpx
set_option maxRecDepth 20000 in
set_option maxHeartbeats 4000000 in
theorem cpeek_any (b : Nat) (S : ByteArray) (p : CP) (w : World) (h : Pq w b S p) : Calls Tryz.prog 337 #[.pointer (some ⟨b, 0, none⟩)] w (PqP b S (.string (bs (tokI S.data.toList p.pos))) (p.skip S.data.toList) w) := by
  have HSK := Lib.hid (cskip_any b S p w h)
  have HLT := Lib.hid cletter_any
  have HDG := Lib.hid cdigit_any
  have hsz := h.2.2.2
  have hle := skipI_le (s := S.data.toList) (i := p.pos) (by rw [ba_len]; exact h.2.1)
  rw [ba_len] at hle
  have HTK : Hid (tokI S.data.toList p.pos = tokC (S.data.toList.drop (skipI S.data.toList p.pos))) := rfl
  have hex : S.extract (skipI S.data.toList p.pos) S.size = bs (S.data.toList.drop (skipI S.data.toList p.pos)) := by
    have := bs_extract S.data.toList (skipI S.data.toList p.pos) S.size
    rw [bs_self, List.take_of_length_le (by rw [ba_len]; exact Nat.le_refl _)] at this
    exact this
  have hrl : (S.data.toList.drop (skipI S.data.toList p.pos)).length ≤ 200000 := by rw [List.length_drop, ba_len]; omega
  have HSKE : Hid ((p.skip S.data.toList).pos = skipI S.data.toList p.pos) := rfl
  unfold PqP at HSK ⊢
  clear h
  generalize tokI S.data.toList p.pos = tk at *
  generalize p.skip S.data.toList = q at *
  generalize S.data.toList.drop (skipI S.data.toList p.pos) = rl at *
  generalize skipI S.data.toList p.pos = k0 at *
  go_enter Tryz.func337, Tryz.ntmps337
  go_wp2_with fail
  refine HSK.out.mono ?_
  rintro _ w1 ⟨rfl, hpc, hkp⟩
  have HPC := Lib.hid hpc
  have HK := Lib.hid hkp
  obtain ⟨c0, c1, _, _, _, _, _⟩ := hpc.cells
  rw [HSKE.out] at c1
  have hb := hpc.lt
  clear hpc hkp HSK
  obtain ⟨qp, qr, qe⟩ := q
  go_upto_region 2 with (fail)
  refine wp_region_ext (by kernel_rfl) (by kernel_rfl) ?_
  repeat (go_big_quiet_step (fail))
  refine wpQuiet_nil ?_
  intro _ hw'
  obtain ⟨X9, hw''⟩ := hw'
  subst hw''
  have HK := Lib.hid (HK.out.trans (kp_below X9.2))
  have HPC := Lib.hid (HPC.out.below X9.2)
  clear c0 c1 hb
  generalize X9.val = w2 at *
  try rw [hex]
  clear hex
  cases rl with
  | nil =>
    have HT : Hid (bs tk = .empty) := by rw [Hid, HTK.out]; rfl
    have he1 : (bs ([] : List UInt8)).toList = [] := bs_toList _
    go_wp2_with fail
    go_ret
    exact ⟨by rw [HT.out]; rfl, HPC.out, HK.out⟩
  | cons c r =>
    have he1 : (bs (c :: r)).toList = c :: r := bs_toList _
    have hne : ((bs (c :: r)).toList == ([] : List UInt8)) = false := by rw [he1]; rfl
    have hem : (bs (c :: r)).toList.isEmpty = false := by rw [he1]; rfl
    have hsz2 : (bs (c :: r)).size = r.length + 1 := bs_size _
    have hat : ∀ g, (bs (c :: r))[0]'g = c := fun g => rfl
    have HRL := Lib.hid (fun w => run_letter (bs (c :: r)) w (by rw [hsz2]; simpa using hrl))
    have HRD := Lib.hid (fun w => run_digit (bs (c :: r)) w (by rw [hsz2]; simpa using hrl))
    have HHP := Lib.hid (hp_any (bs (c :: r)))
    rw [bs_data] at HRL HRD HHP
    clear he1
    have hgt : 0 < (bs (c :: r)).size := by rw [hsz2]; omega
    have HTL : Hid (lowB c = true → tk = (c :: r).takeWhile lowB) := fun h => by rw [HTK.out, tokC, if_pos h]
    have HTD : Hid (lowB c = false → digB c = true → tk = (c :: r).takeWhile digB) := fun h h2 => by rw [HTK.out, tokC, if_neg (by rw [h]; simp), if_pos h2]
    have HTM : Hid (lowB c = false → digB c = false → tk = (marksC.find? fun m => m.isPrefixOf (c :: r)).getD []) := fun h h2 => by rw [HTK.out, tokC_mark h h2]
    generalize (c :: r).takeWhile lowB = tl at *
    generalize (c :: r).takeWhile digB = td at *
    generalize hRB : bs (c :: r) = RB at *
    clear hRB HTK
    go_wp2_with fail
    refine (HLT.out c _).mono ?_
    rintro _ _ ⟨rfl, rfl⟩
    generalize lowB c = q1 at *
    cases q1 with
    | true =>
      have HT := Lib.hid (HTL.out rfl)
      clear HTL HTD HTM
      go_wp2_with fail
      refine (HRL.out _).mono ?_
      rintro _ _ ⟨rfl, rfl⟩
      go_wp2_with fail
      go_ret
      exact ⟨by rw [HT.out]; rfl, HPC.out, HK.out⟩
    | false =>
      go_wp2_with fail
      refine (HDG.out c _).mono ?_
      rintro _ _ ⟨rfl, rfl⟩
      generalize digB c = q2 at *
      cases q2 with
      | true =>
        have HT := Lib.hid (HTD.out (by trivial) rfl)
        clear HTL HTD HTM
        go_wp2_with fail
        refine (HRD.out _).mono ?_
        rintro _ _ ⟨rfl, rfl⟩
        go_wp2_with fail
        go_ret
        exact ⟨by rw [HT.out]; rfl, HPC.out, HK.out⟩
      | false =>
        have HM := Lib.hid (HTM.out (by trivial) rfl)
        clear HTL HTD HTM
        go_wp2_with fail
        refine wp_at_worldB ?_
        intro w3 hw3
        have HK3 : Hid (Kp (oneP b) w w3) := by rw [hw3]; exact HK.out.alloc _
        have HPC3 : Hid (Pq w3 b S ⟨qp, qr, qe⟩) := by rw [hw3]; exact HPC.out.below (Bel.alloc (Bel.refl w2) _)
        have HSL : Hid (Sl w3 (some ⟨w2.heap.size, 0, none⟩) 5 (strs (marksC.map bs))) := by
          rw [hw3]
          exact sl_made w2 (strs (marksC.map bs)) 9 (by decide)
        obtain ⟨B, hB⟩ : ∃ B, w2.heap.size = B := ⟨_, rfl⟩
        rw [hB] at HSL ⊢
        clear hw3 hB HPC HK
        go_loopw [34] (fun u wr => ∃ k : Nat, u = .int .i64 (k : Int) ∧ k ≤ 5 ∧ (∀ j, j < k → (marksC.getD j []).isPrefixOf (c :: r) = false) ∧ wr = w3) (fun u _ => 5 - (intOf u).toNat)
        case atStart => exact ⟨0, rfl, Nat.zero_le _, fun j hj => absurd hj (Nat.not_lt_zero _), rfl⟩
        case round =>
          obtain ⟨k, rfl, hk5, hal, rfl⟩ := hrel
          have HAL := Lib.hid hal
          clear hal
          by_cases hlt : k < 5
          · obtain ⟨b0, o0, hsa⟩ := HSL.out
            have hixk := fun W => hsa.ix (c := 5) 44 9 Tryz.underlying44 cStB hlt W
            have hc0 := hsa.cell k hlt
            rw [strs_getD _ _ (by exact hlt), show (marksC.map bs).getD k .empty = bs (marksC.getD k []) by
              rw [List.getD_eq_getElem?_getD, List.getElem?_map, List.getD_eq_getElem?_getD, List.getElem?_eq_getElem (show k < marksC.length from hlt)]; rfl] at hc0
            have hkz : (k : Int) < 5 := by omega
            have HH := Lib.hid (HHP.out (bs (marksC.getD k [])))
            rw [bs_data] at HH
            have HNX : Hid ((marksC.getD k []).isPrefixOf (c :: r) = false → ∀ j, j < k + 1 → (marksC.getD j []).isPrefixOf (c :: r) = false) := fun h j hj => by
              rcases Nat.lt_or_ge j k with h' | h'
              · exact HAL.out j h'
              · rw [show j = k by omega]; exact h
            have HFD : Hid ((marksC.getD k []).isPrefixOf (c :: r) = true → tk = marksC.getD k []) := fun h => by
              rw [HM.out, find_ix (d := []) HAL.out hlt h]; rfl
            clear hsa
            generalize (marksC.getD k []).isPrefixOf (c :: r) = q3 at *
            generalize marksC.getD k [] = mk at *
            go_wp2_with fail
            refine (HH.out _).mono ?_
            rintro _ _ ⟨rfl, rfl⟩
            cases q3 with
            | true =>
              have HT := Lib.hid (HFD.out rfl)
              clear HFD HNX
              go_wp2_with fail
              go_ret
              exact ⟨by rw [HT.out]; rfl, HPC3.out, HK3.out⟩
            | false =>
              have HN2 := Lib.hid (HNX.out rfl)
              clear HFD HNX
              go_wp2_with fail
              go_roundw
              case rel => exact ⟨k + 1, by go_num, by omega, HN2.out, trivial⟩
              case measure => simp [intOf]; omega
          · obtain rfl : k = 5 := by omega
            have HT : Hid (bs tk = .empty) := by
              rw [Hid, HM.out, find_nix (l := marksC) (d := []) (fun j hj => HAL.out j hj)]; rfl
            go_wp2_with fail
            go_ret
            exact ⟨by rw [HT.out]; rfl, HPC3.out, HK3.out⟩
end Go.Proofs.YtmleeodfmmpdgaaGreatDoor
/- Walks: conditions, the program's parser: tokens taken. -/
namespace Go.Proofs.YtmleeodfmmpdgaaGreatDoor
open Go.RowKit
attribute [local go_sem] Ext.cell Ext.frozen
attribute [local go_sem ↓] Go.wp_at_zero Go.wp_at_succ
set_option maxRecDepth 20000 in
set_option maxHeartbeats 4000000 in
theorem ctake_any (b : Nat) (S : ByteArray) (ad : Option Addr) (n c : Nat) (l : List ByteArray) (p : CP) (w : World) (h : Pq w b S p) (_hs : Sl w ad n (strs l)) (hnb : ∀ W, Kp (oneP b) w W → Sl W ad n (strs l)) : Calls Tryz.prog 339 #[.pointer (some ⟨b, 0, none⟩), .slice ad n c] w (PqP b S (.string (bs (p.take S.data.toList l).1)) (p.take S.data.toList l).2 w) := by
  have HP := Lib.hid (cpeek_any b S p w h)
  have HF := Lib.hid (fun q W (g : Pq W b S q) => cfail_any b S 3 q W g)
  have HC := Lib.hid (fun x W (g : Kp (oneP b) w W) => contains_str ad n c l x W (hnb W g))
  have hle := tokI_le (s := S.data.toList) (i := p.pos) (by rw [ba_len]; exact h.2.1)
  rw [ba_len] at hle
  have HOK := Lib.hid (@CP.take_ok S.data.toList l p)
  have HNO := Lib.hid (@CP.take_no S.data.toList l p)
  have HER := Lib.hid (@CP.take_err S.data.toList l p)
  have HSKE : Hid ((p.skip S.data.toList).pos = skipI S.data.toList p.pos) := rfl
  have HSKR : Hid ((p.skip S.data.toList).err = p.err) := rfl
  have hsz2 := bs_size (tokI S.data.toList p.pos)
  have hsz := h.2.2.2
  unfold PqP at HP HF ⊢
  clear h _hs hnb
  generalize p.take S.data.toList l = res at *
  generalize tokI S.data.toList p.pos = tk at *
  generalize p.skip S.data.toList = q at *
  generalize skipI S.data.toList p.pos = k0 at *
  obtain ⟨rv, rq⟩ := res
  simp only
  go_enter Tryz.func339, Tryz.ntmps339
  go_wp2_with fail
  refine HP.out.mono ?_
  rintro _ w1 ⟨rfl, hpc, hkp⟩
  have HPC := Lib.hid hpc
  have HK := Lib.hid hkp
  obtain ⟨c0, c1, _, c3, f1, _, _⟩ := hpc.cells
  have hb := hpc.lt
  clear hpc hkp HP
  rw [HSKE.out] at c1
  have HC1 := Lib.hid (HC.out (bs tk) _ HK.out)
  clear HC
  generalize l.contains (bs tk) = q1 at *
  by_cases he : q.err = 0
  · rw [he] at c3
    have he2 : p.err = 0 := by rw [← HSKR.out]; exact he
    cases q1 with
    | true =>
      have h1 := HOK.out rfl he2
      injection h1 with h1 h2
      have H1 : Hid (bs rv = bs tk) := by rw [Hid, h1]
      have HPP : Hid (∀ W, Pq W b S q → Pq (W.setCell ⟨b, 1, none⟩ (.int .i64 ((k0 : Int) + (tk.length : Int)))) b S rq) := fun W g => by
        rw [h2]
        have := g.pos (k0 + tk.length) hle
        rw [show ((k0 + tk.length : Nat) : Int) = (k0 : Int) + (tk.length : Int) by omega] at this
        have e : q.adv tk.length = { q with pos := k0 + tk.length } := by unfold CP.adv; rw [HSKE.out]
        rw [e]
        exact this
      clear HOK HNO HER h1 h2 he he2
      generalize bs tk = TK at *
      go_wp2_with fail
      refine HC1.out.mono ?_
      rintro _ _ ⟨rfl, rfl⟩
      go_wp2_with fail
      go_ret
      exact ⟨by rw [H1.out]; rfl, by first | exact HPP.out _ HPC.out | (rw [← hsz2]; exact HPP.out _ HPC.out) | (rw [hsz2]; exact HPP.out _ HPC.out), HK.out.set (p := ⟨b, 1, none⟩) (oneP_self b) _⟩
    | false =>
      have h1 := HNO.out rfl
      injection h1 with h1 h2
      have H1 : Hid (bs rv = .empty) := by rw [Hid, h1]; rfl
      have hne : Hid (rq.err ≠ 0) := by rw [Hid, h2]; exact CP.fail_e (by decide) q
      have HF1 := Lib.hid (HF.out q)
      rw [← h2] at HF1
      clear HOK HNO HER h1 h2 HF he he2
      generalize bs tk = TK at *
      go_wp2_with fail
      refine HC1.out.mono ?_
      rintro _ _ ⟨rfl, rfl⟩
      go_wp2_with fail
      refine (HF1.out _ HPC.out).mono ?_
      rintro _ w3 ⟨rfl, hr, hk⟩
      have HR3 := Lib.hid hr
      have HK3 := Lib.hid (HK.out.trans hk)
      obtain ⟨_, _, _, c3, _, _, _⟩ := hr.cells
      have hne4 : (rq.err == 0) = false := by simpa using hne.out
      clear hr hk
      go_wp2_with fail
      go_ret
      exact ⟨by rw [H1.out]; rfl, HR3.out, HK3.out⟩
  · have he2 : p.err ≠ 0 := by rw [← HSKR.out]; exact he
    have hz : (q.err == 0) = false := by simpa using he
    have h1 := HER.out he2
    injection h1 with h1 h2
    have H1 : Hid (bs rv = .empty) := by rw [Hid, h1]; rfl
    have H2 := Lib.hid h2
    clear HOK HNO HER h1 h2 he2
    generalize bs tk = TK at *
    go_wp2_with fail
    go_ret
    exact ⟨by rw [H1.out]; rfl, by rw [H2.out]; exact HPC.out, HK.out⟩
set_option maxRecDepth 20000 in
set_option maxHeartbeats 4000000 in
theorem cnext_any (b : Nat) (S : ByteArray) (t : List UInt8) (ht : t.length ≤ 100) (p : CP) (w : World) (h : Pq w b S p) : Calls Tryz.prog 332 #[.pointer (some ⟨b, 0, none⟩), .string (bs t)] w (PqP b S (.bool (p.next S.data.toList t).1) (p.next S.data.toList t).2 w) := by
  have HP := Lib.hid (cpeek_any b S p w h)
  have hle := tokI_le (s := S.data.toList) (i := p.pos) (by rw [ba_len]; exact h.2.1)
  rw [ba_len] at hle
  have HYE := Lib.hid (@CP.next_yes S.data.toList t p)
  have HNO := Lib.hid (@CP.next_no S.data.toList t p)
  have HER := Lib.hid (@CP.next_err S.data.toList t p)
  have HSKE : Hid ((p.skip S.data.toList).pos = skipI S.data.toList p.pos) := rfl
  have HH := Lib.hid h
  have hsz := h.2.2.2
  have hsz2 := bs_size t
  have hq : ((bs (tokI S.data.toList p.pos)).toList == (bs t).toList) = decide (tokI S.data.toList p.pos = t) := by
    rw [bs_toList, bs_toList, Bool.eq_iff_iff, beq_iff_eq, decide_eq_true_eq]
  obtain ⟨_, _, _, d3, _, _, _⟩ := h.cells
  have hb0 := h.lt
  unfold PqP at HP ⊢
  clear h
  generalize p.next S.data.toList t = res at *
  generalize tokI S.data.toList p.pos = tk at *
  generalize p.skip S.data.toList = q at *
  generalize skipI S.data.toList p.pos = k0 at *
  obtain ⟨rv, rq⟩ := res
  simp only
  by_cases he : p.err = 0
  · rw [he] at d3
    by_cases hte : tk = t
    · have h1 := HYE.out he hte
      injection h1 with h1 h2
      have H1 := Lib.hid h1
      rw [decide_eq_true hte] at hq
      have hbne : ((bs tk).toList != (bs t).toList) = false := by rw [bne, hq]; rfl
      have HPP : Hid (∀ W, Pq W b S q → Pq (W.setCell ⟨b, 1, none⟩ (.int .i64 ((k0 : Int) + (t.length : Int)))) b S rq) := fun W g => by
        rw [h2]
        have := g.pos (k0 + t.length) (by rw [← hte]; exact hle)
        rw [show ((k0 + t.length : Nat) : Int) = (k0 : Int) + (t.length : Int) by omega] at this
        have e : q.adv t.length = { q with pos := k0 + t.length } := by unfold CP.adv; rw [HSKE.out]
        rw [e]
        exact this
      clear HYE HNO HER h1 h2 hte
      generalize bs tk = TK at *
      generalize bs t = TT at *
      go_enter Tryz.func332, Tryz.ntmps332
      go_wp2_with fail
      refine HP.out.mono ?_
      rintro _ w1 ⟨rfl, hpc, hkp⟩
      have HPC := Lib.hid hpc
      have HK := Lib.hid hkp
      obtain ⟨c0, c1, _, c3, f1, _, _⟩ := hpc.cells
      have hb := hpc.lt
      clear hpc hkp HP
      rw [HSKE.out] at c1
      go_wp2_with fail
      go_ret
      exact ⟨by rw [H1.out]; rfl, by first | exact HPP.out _ HPC.out | (rw [← hsz2]; exact HPP.out _ HPC.out) | (rw [hsz2]; exact HPP.out _ HPC.out), HK.out.set (p := ⟨b, 1, none⟩) (oneP_self b) _⟩
    · have h1 := HNO.out he hte
      injection h1 with h1 h2
      have H1 := Lib.hid h1
      have H2 := Lib.hid h2
      rw [decide_eq_false hte] at hq
      have hbne : ((bs tk).toList != (bs t).toList) = true := by rw [bne, hq]; rfl
      clear HYE HNO HER h1 h2 hte
      generalize bs tk = TK at *
      generalize bs t = TT at *
      go_enter Tryz.func332, Tryz.ntmps332
      go_wp2_with fail
      refine HP.out.mono ?_
      rintro _ w1 ⟨rfl, hpc, hkp⟩
      have HPC := Lib.hid hpc
      have HK := Lib.hid hkp
      obtain ⟨c0, c1, _, c3, f1, _, _⟩ := hpc.cells
      have hb := hpc.lt
      clear hpc hkp HP
      go_wp2_with fail
      go_ret
      exact ⟨by rw [H1.out]; rfl, by rw [H2.out]; exact HPC.out, HK.out⟩
  · have hz : (p.err == 0) = false := by simpa using he
    have h1 := HER.out he
    injection h1 with h1 h2
    have H1 := Lib.hid h1
    have H2 := Lib.hid h2
    clear HYE HNO HER h1 h2 HP
    generalize bs t = TT at *
    go_enter Tryz.func332, Tryz.ntmps332
    go_wp2_with fail
    go_ret
    exact ⟨by rw [H1.out]; rfl, by rw [H2.out]; exact HH.out, Kp.refl _ _⟩
end Go.Proofs.YtmleeodfmmpdgaaGreatDoor
