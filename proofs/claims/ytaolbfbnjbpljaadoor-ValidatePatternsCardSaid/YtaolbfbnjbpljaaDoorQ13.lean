/- Walk: the runs of a date pattern, by the reference. -/
import Derived.Test.YtaolbfbnjbpljaaDoorQ08
import Derived.Deep.DeepCutAuto
import Derived.Test.YtaolbfbnjbpljaaDoorQ12
import Derived.Deep.QuietTactic
import Derived.BigQuiet
namespace Go.Proofs.YtaolbfbnjbpljaaDoor
open Go.RowKit
attribute [local go_sem] Ext.cell Ext.frozen
attribute [local go_sem ↓] Go.wp_at_zero Go.wp_at_succ
set_option maxRecDepth 20000 in
set_option maxHeartbeats 16000000 in
theorem rruns_any (l : List UInt8) (w : World) (hs : l.length ≤ 1000) : Calls Tryd.prog 33 #[.string (bs l)] w (RRunsPost l w) := by
  have HF := Lib.hid rfield_any
  have HO := Lib.hid order_any
  have HLT := Lib.hid rletter13_any
  have hsz : (bs l).size = l.length := bs_size l
  have HSZ := Lib.hid hsz
  have hle : (bs l).size ≤ 1000 := by omega
  have HAT : Hid (∀ (i : Nat) (g : i < (bs l).size), (bs l)[i]'g = l.getD i 0) := fun i g => ba_getD (bs l) i g
  have HEX : Hid (∀ (i : Nat) (T D : List UInt8), l.drop i = T ++ D → (bs l).extract i (i + T.length) = bs T) := fun i T D h => ext_run (bs l) i T D h
  generalize bs l = S at *
  clear hsz
  go_enter Tryd.func33, Tryd.ntmps33
  go_upto_region 3 with (fail)
  refine wp_at_worldY ?_
  intro W hW
  have KA : Hid (W.heap[w.heap.size]? = some (.cells (kRow []) 69 (0, 0))) := by rw [hW]; exact rowY_new _ _ _
  have HB0 : Hid (Below w.heap.size w W) := by rw [hW]; exact (Below.refl _ _).alloc (Nat.le_refl _) _
  have hzW : w.heap.size + 1 ≤ W.heap.size := (Array.getElem?_eq_some_iff.1 KA.out).1
  clear hW
  go_wp2_with fail
  go_loopw [4, 6] (fun v u wr => ∃ (i n : Nat) (o : List (List UInt8)) (ad : Option Addr) (c : Nat), u = .int .i64 (i : Int) ∧ i ≤ l.length ∧ l.length - i ≤ n ∧ o.length ≤ i ∧ (hds o).Nodup ∧
      runsV l.length l = (runsV n (l.drop i)).map (o ++ ·) ∧ v = .slice ad o.length c ∧ wr.ownsRow (w.heap.size + 1) 9 1 (.slice ad o.length c) o.length (strs (o.map bs)) ∧
      wr.heap[w.heap.size]? = some (.cells (kRow o) 69 (0, 0)) ∧ Below w.heap.size w wr ∧ w.heap.size + 1 ≤ wr.heap.size) (fun _ u _ => l.length - (intOf u).toNat)
  case atStart => exact ⟨0, l.length, [], none, 0, rfl, by omega, by omega, by simp, by simp [hds], by simp, rfl, World.ownsRow_nil _ _ _ _, KA.out, HB0.out, hzW⟩
  case round =>
    obtain ⟨i, n, o, ad, c0, rfl, his, hin, hol, hnd, hr, rfl, hown, hka, hbl, hzr⟩ := hrel
    have HR := Lib.hid hr
    have HND := Lib.hid hnd
    have HOWN := Lib.hid hown
    have HKA := Lib.hid hka
    have HBL := Lib.hid hbl
    clear hr hnd hown hbl hka KA HB0 hzW
    by_cases hi : i < l.length
    · obtain ⟨n, rfl⟩ : ∃ q, n = q + 1 := ⟨n - 1, by omega⟩
      have hiS : i < S.size := by rw [HSZ.out]; exact hi
      have hat : ∀ g : i < S.size, S[i]'g = l.getD i 0 := fun g => HAT.out i g
      obtain ⟨rr, hdr⟩ : ∃ rr, l.drop i = l.getD i 0 :: rr := ⟨l.drop (i + 1), by rw [List.drop_eq_getElem_cons hi]; simp [List.getD, List.getElem?_eq_getElem hi]⟩
      have hrl : rr = l.drop (i + 1) := by
        have := congrArg List.tail hdr
        rw [List.tail_drop] at this
        exact this.symm
      rw [hdr] at HR
      cases hL : isL (l.getD i 0)
      · have HR2 : Hid (runsV l.length l = (runsV n (l.drop (i + 1))).map (o ++ ·)) := by
          unfold Hid
          rw [HR.out, runsV_skip (by rw [List.takeWhile_cons, if_neg (by rw [hL]; simp)]), hrl]
        have HLC := Lib.hid (fun w => HLT.out (l.getD i 0) w)
        rw [hL] at HLC
        clear hdr hrl hL HR
        generalize l.getD i 0 = ch at *
        go_wp2_with fail
        refine (HLC.out _).mono ?_
        rintro e _ ⟨rfl, rfl⟩
        go_wp2_with fail
        go_roundw
        case rel => exact ⟨i + 1, n, o, ad, c0, by go_num, hi, by omega, by omega, HND.out, HR2.out, rfl, HOWN.out, HKA.out, HBL.out, hzr⟩
        case measure => simp [intOf]; omega
      · have hTne : (l.getD i 0 :: rr).takeWhile isL ≠ [] := by rw [List.takeWhile_cons, if_pos hL]; simp
        have hT0 : 0 < ((l.getD i 0 :: rr).takeWhile isL).length := by rw [List.takeWhile_cons, if_pos hL]; simp
        have hsp : l.drop i = (l.getD i 0 :: rr).takeWhile isL ++ (l.getD i 0 :: rr).dropWhile isL := by rw [List.takeWhile_append_dropWhile]; exact hdr
        have hll := congrArg List.length hsp
        rw [List.length_append, List.length_drop] at hll
        have HEXT := Lib.hid (HEX.out i _ _ hsp)
        have HDD : Hid (l.drop (i + ((l.getD i 0 :: rr).takeWhile isL).length) = (l.getD i 0 :: rr).dropWhile isL) := by
          unfold Hid
          rw [← List.drop_drop]
          conv => lhs; arg 2; rw [hsp]
          rw [List.drop_left]
        have HLA : Hid (∀ j, i ≤ j → j < i + ((l.getD i 0 :: rr).takeWhile isL).length → isL (l.getD j 0) = true) := fun j h1 h2 => by
          have := tkY_at (l := l.getD i 0 :: rr) (k := j - i) (by omega)
          rw [← hdr, drop_getD, show i + (j - i) = j by omega] at this
          exact this
        have HLE : Hid (i + ((l.getD i 0 :: rr).takeWhile isL).length < l.length → isL (l.getD (i + ((l.getD i 0 :: rr).takeWhile isL).length) 0) = false) := fun h => by
          have := tkY_end (l := l.getD i 0 :: rr) (by rw [← hdr, List.length_drop] ; rw [hdr]; omega)
          rw [← hdr, drop_getD, hdr] at this
          exact this
        have HTK := Lib.hid (fun h => runsV_take (n := n) hTne h)
        have HFA := Lib.hid (fun h => runsV_fail (n := n) hTne h)
        have HTH : Hid (((l.getD i 0 :: rr).takeWhile isL).headD 0 = l.getD i 0) := by unfold Hid; rw [List.takeWhile_cons, if_pos hL]; rfl
        clear hsp hTne hdr hrl
        generalize hT : (l.getD i 0 :: rr).takeWhile isL = T at *
        generalize hD : (l.getD i 0 :: rr).dropWhile isL = D at *
        obtain ⟨k2, hk2⟩ : ∃ k2, i + T.length = k2 := ⟨_, rfl⟩
        have hk2s : k2 ≤ l.length := by omega
        have hik : i < k2 := by omega
        rw [hk2] at HEXT HDD HLA HLE
        have hnk : l.length - k2 ≤ n := by omega
        have HRU : Hid (runsV l.length l = (runsV (n + 1) (l.getD i 0 :: rr)).map (o ++ ·)) := HR
        have HLC := Lib.hid (fun w => HLT.out (l.getD i 0) w)
        rw [hL] at HLC
        clear hT hD hll hT0 hL HR hk2
        generalize l.getD i 0 = ci at *
        go_wp2_with fail
        refine (HLC.out _).mono ?_
        rintro e _ ⟨rfl, rfl⟩
        go_wp2_with fail
        obtain ⟨wo, rfl⟩ : ∃ wo : World, wo = wr := ⟨_, rfl⟩
        go_loopw [7] (fun v wx => ∃ j : Nat, v = .int .i64 (j : Int) ∧ i ≤ j ∧ j ≤ k2 ∧ wx = wo) (fun v _ => k2 - (intOf v).toNat)
        case atStart => exact ⟨i, rfl, by omega, by omega, rfl⟩
        case round =>
          obtain ⟨j, rfl, hj1, hj2, rfl⟩ := hrel
          by_cases hlt : j < k2
          · have hjS : j < S.size := by rw [HSZ.out]; omega
            have hatj : ∀ g : j < S.size, S[j]'g = l.getD j 0 := fun g => HAT.out j g
            have HLJ := Lib.hid (fun w => HLT.out (l.getD j 0) w)
            rw [HLA.out j hj1 hlt] at HLJ
            generalize l.getD j 0 = cj at *
            go_wp2_with fail
            refine (HLJ.out _).mono ?_
            rintro e _ ⟨rfl, rfl⟩
            go_wp2_with fail
            go_roundw
            case rel => exact ⟨j + 1, by go_num, by omega, by omega, trivial⟩
            case measure => simp [intOf]; omega
          · obtain rfl : j = k2 := by omega
            have HFT := Lib.hid (fun w => HF.out (bs T) w)
            rw [bs_data] at HFT
            have HOC := Lib.hid (fun w => HO.out ci w)
            have hij : (i : Int) ≤ (j : Int) := by omega
            have hjS : j ≤ S.size := by rw [HSZ.out]; exact hk2s
            have hexo := HEXT.out
            have HEND : Hid (∀ Q : Prop, ((hg : j < S.size) → isL (l.getD j 0) = false → Q) → (¬ j < S.size → Q) → Q) := fun Q h1 h2 => by
              by_cases h : j < S.size
              · exact h1 h (HLE.out (by rw [← HSZ.out]; exact h))
              · exact h2 h
            have hsplit : (j < S.size ∧ isL (l.getD j 0) = false) ∨ ¬ j < S.size := HEND.out _ (fun a b => .inl ⟨a, b⟩) (fun a => .inr a)
            have HLJ := Lib.hid (fun w => HLT.out (l.getD j 0) w)
            have hatj : ∀ g : j < S.size, S[j]'g = l.getD j 0 := fun g => HAT.out j g
            have key : ∀ P : Prop, P → P := fun _ h => h
            clear HEND HLA HLE HLC
            cases hfl : isFld T with
            | false =>
              have HV : Hid (rrunsV l = ([], false)) := rruns_bad (fun g hg => by rw [HRU.out, HFA.out hfl] at hg; cases hg)
              rw [hfl] at HFT
              clear HTK HFA hfl HRU
              generalize bs T = TB at *
              generalize l.getD j 0 = cj at *
              rcases hsplit with ⟨hjl, hcj⟩ | hjl
              · rw [hcj] at HLJ
                clear hcj
                go_wp2_with fail
                refine (HLJ.out _).mono ?_
                rintro e _ ⟨rfl, rfl⟩
                go_wp2_with fail
                refine (HFT.out _).mono ?_
                rintro e _ ⟨rfl, rfl⟩
                go_wp2_with fail
                refine bodyPost_ret (v := .tuple #[.slice none 0 0, .bool false]) (by simp [results, Tryd.f33, go_sem]) rfl ⟨none, 0, by rw [HV.out]; rfl, by rw [HV.out]; exact World.ownsRow_nil _ _ _ _, HBL.out⟩
              · go_wp2_with fail
                refine (HFT.out _).mono ?_
                rintro e _ ⟨rfl, rfl⟩
                go_wp2_with fail
                refine bodyPost_ret (v := .tuple #[.slice none 0 0, .bool false]) (by simp [results, Tryd.f33, go_sem]) rfl ⟨none, 0, by rw [HV.out]; rfl, by rw [HV.out]; exact World.ownsRow_nil _ _ _ _, HBL.out⟩
            | true =>
              obtain ⟨q, t, hq4, hTq⟩ := fld_head hfl
              have hci : ci = kindsL.getD q 0 := by rw [← HTH.out, hTq]; rfl
              have hor : ordL ci = (q : Int) := by rw [hci]; exact ordL_kind hq4
              rw [hor] at HOC
              rw [hfl] at HFT
              have HRV : Hid (runsV l.length l = (runsV n (l.drop j)).map ((o ++ [T]) ++ ·)) := by
                unfold Hid
                rw [HRU.out, HTK.out hfl, HDD.out, Option.map_map]
                congr 1
                funext z
                simp
              have hKq := rowY_cells HKA.out q
              have hKf := rowY_frozen HKA.out q
              have hKq2 : (kRow o)[q]? = some (.bool (kindA o q)) := by
                have hq' : q = 0 ∨ q = 1 ∨ q = 2 ∨ q = 3 := by omega
                rcases hq' with e | e | e | e <;> subst e <;> rfl
              rw [hKq2] at hKq
              have HSET : Hid ((kRow o).setIfInBounds q (.bool true) = kRow (o ++ [T])) := by unfold Hid; rw [hTq]; exact kRow_set hq4
              have hia : ∀ W, (Instr.indexAt 69 (.pointer (some ⟨w.heap.size, 0, none⟩)) (.int .i64 (q : Int))).run Tryd.prog W = .ok (.pointer (some ⟨w.heap.size, q, none⟩)) W := fun W => by
                have hq' : q = 0 ∨ q = 1 ∨ q = 2 ∨ q = 3 := by omega
                rcases hq' with e | e | e | e <;> subst e <;> simp [go_sem, Addr.add]
              cases hka : kindA o q
              · have HND2 : Hid ((hds (o ++ [T])).Nodup) := by
                  unfold Hid
                  rw [hds_snoc, hTq]
                  refine List.nodup_append.2 ⟨HND.out, by simp, ?_⟩
                  intro a ha b hb e
                  subst e
                  have hb2 : a = [kindsL.getD q 0] := by simpa using hb
                  rw [hb2] at ha
                  rw [kindA_mem.2 ha] at hka
                  cases hka
                have HAPP : Hid (strs ((o ++ [T]).map bs) = strs (o.map bs) ++ [.string (bs T)]) := by unfold Hid; rw [List.map_append]; exact strs_snoc _ _
                have HLEN : Hid ((o ++ [T]).length = o.length + 1) := by unfold Hid; simp
                rw [hka] at hKq
                clear HTK HFA hfl HRU hTq hci hor hKq2 hka
                have hOB : o.length ≤ 1000 := by omega
                generalize hTB : bs T = TB at *
                have HTB := Lib.hid hTB
                clear hTB
                generalize l.getD j 0 = cj at *
                rcases hsplit with ⟨hjl, hcj⟩ | hjl
                · rw [hcj] at HLJ
                  clear hcj
                  go_wp2_with fail
                  refine (HLJ.out _).mono ?_
                  rintro e _ ⟨rfl, rfl⟩
                  go_wp2_with fail
                  refine (HFT.out _).mono ?_
                  rintro e _ ⟨rfl, rfl⟩
                  go_wp2_with fail
                  refine (HOC.out _).mono ?_
                  rintro e _ ⟨rfl, rfl⟩
                  go_wp2_with fail
                  refine (HOC.out _).mono ?_
                  rintro e _ ⟨rfl, rfl⟩
                  go_wp2_with (at_builtin; refine appStr rfl _ _ rfl (w.heap.size + 1) _ _ _ _ rfl (ownY_set HOWN.out ⟨w.heap.size, q, none⟩ (Nat.lt_succ_self _) (.bool true)) _ _ (by rw [show (wr.setCell ⟨w.heap.size, q, none⟩ (.bool true)).heap.size = wr.heap.size from by simp]; rfl) rfl (by unfold maxLen; omega) (by omega) (by simpa using hzr) ?_; intro ad6 c6 w3 hown3 hb3 hg3 hz3; have HOWN3 := Lib.hid hown3; have HB3 := Lib.hid hb3; have HZ3 := Lib.hid hz3; clear hown3 hb3 hg3 hz3)
                  have HKS : Hid ((wr.setCell ⟨w.heap.size, q, none⟩ (.bool true)).heap[w.heap.size]? = some (.cells (kRow (o ++ [T])) 69 (0, 0))) := by unfold Hid; rw [← HSET.out]; exact rowY_set HKA.out q _
                  have HBS : Hid (Below w.heap.size w (wr.setCell ⟨w.heap.size, q, none⟩ (.bool true))) := Below.setCell HBL.out (p := ⟨w.heap.size, q, none⟩) (Nat.le_refl _) _
                  go_roundw
                  case rel => exact ⟨j, n, o ++ [T], ad6, c6, rfl, hk2s, hnk, by rw [HLEN.out]; omega, HND2.out, HRV.out, by rw [HLEN.out], by rw [HAPP.out, HLEN.out]; exact HOWN3.out, (HB3.out.block w.heap.size (Nat.lt_succ_self _)).trans HKS.out, HBS.out.trans (HB3.out.mono (Nat.le_succ _)), by have := HB3.out.size; simp at this; omega⟩
                  case measure => simp [intOf]; omega
                · go_wp2_with fail
                  refine (HFT.out _).mono ?_
                  rintro e _ ⟨rfl, rfl⟩
                  go_wp2_with fail
                  refine (HOC.out _).mono ?_
                  rintro e _ ⟨rfl, rfl⟩
                  go_wp2_with fail
                  refine (HOC.out _).mono ?_
                  rintro e _ ⟨rfl, rfl⟩
                  go_wp2_with (at_builtin; refine appStr rfl _ _ rfl (w.heap.size + 1) _ _ _ _ rfl (ownY_set HOWN.out ⟨w.heap.size, q, none⟩ (Nat.lt_succ_self _) (.bool true)) _ _ (by rw [show (wr.setCell ⟨w.heap.size, q, none⟩ (.bool true)).heap.size = wr.heap.size from by simp]; rfl) rfl (by unfold maxLen; omega) (by omega) (by simpa using hzr) ?_; intro ad6 c6 w3 hown3 hb3 hg3 hz3; have HOWN3 := Lib.hid hown3; have HB3 := Lib.hid hb3; have HZ3 := Lib.hid hz3; clear hown3 hb3 hg3 hz3)
                  have HKS : Hid ((wr.setCell ⟨w.heap.size, q, none⟩ (.bool true)).heap[w.heap.size]? = some (.cells (kRow (o ++ [T])) 69 (0, 0))) := by unfold Hid; rw [← HSET.out]; exact rowY_set HKA.out q _
                  have HBS : Hid (Below w.heap.size w (wr.setCell ⟨w.heap.size, q, none⟩ (.bool true))) := Below.setCell HBL.out (p := ⟨w.heap.size, q, none⟩) (Nat.le_refl _) _
                  go_roundw
                  case rel => exact ⟨j, n, o ++ [T], ad6, c6, rfl, hk2s, hnk, by rw [HLEN.out]; omega, HND2.out, HRV.out, by rw [HLEN.out], by rw [HAPP.out, HLEN.out]; exact HOWN3.out, (HB3.out.block w.heap.size (Nat.lt_succ_self _)).trans HKS.out, HBS.out.trans (HB3.out.mono (Nat.le_succ _)), by have := HB3.out.size; simp at this; omega⟩
                  case measure => simp [intOf]; omega
              · have HV : Hid (rrunsV l = ([], false)) := rruns_bad (fun g hg => by
                  rw [HRV.out] at hg
                  obtain ⟨g2, _, rfl⟩ := Option.map_eq_some_iff.1 hg
                  rw [hds_app, hds_snoc, hTq]
                  intro hnd
                  have h1 := (List.nodup_append.1 (List.nodup_append.1 hnd).1).2.2 _ (kindA_mem.1 hka) [kindsL.getD q 0] (by simp)
                  exact h1 rfl)
                rw [hka] at hKq
                clear HTK HFA hfl HRU hTq hci hor hKq2 hka
                generalize bs T = TB at *
                generalize l.getD j 0 = cj at *
                rcases hsplit with ⟨hjl, hcj⟩ | hjl
                · rw [hcj] at HLJ
                  clear hcj
                  go_wp2_with fail
                  refine (HLJ.out _).mono ?_
                  rintro e _ ⟨rfl, rfl⟩
                  go_wp2_with fail
                  refine (HFT.out _).mono ?_
                  rintro e _ ⟨rfl, rfl⟩
                  go_wp2_with fail
                  refine (HOC.out _).mono ?_
                  rintro e _ ⟨rfl, rfl⟩
                  go_wp2_with fail
                  refine bodyPost_ret (v := .tuple #[.slice none 0 0, .bool false]) (by simp [results, Tryd.f33, go_sem]) rfl ⟨none, 0, by rw [HV.out]; rfl, by rw [HV.out]; exact World.ownsRow_nil _ _ _ _, HBL.out⟩
                · go_wp2_with fail
                  refine (HFT.out _).mono ?_
                  rintro e _ ⟨rfl, rfl⟩
                  go_wp2_with fail
                  refine (HOC.out _).mono ?_
                  rintro e _ ⟨rfl, rfl⟩
                  go_wp2_with fail
                  refine bodyPost_ret (v := .tuple #[.slice none 0 0, .bool false]) (by simp [results, Tryd.f33, go_sem]) rfl ⟨none, 0, by rw [HV.out]; rfl, by rw [HV.out]; exact World.ownsRow_nil _ _ _ _, HBL.out⟩
    · obtain rfl : i = l.length := by omega
      have hdn : l.drop l.length = [] := by rw [List.drop_eq_nil_iff]; omega
      have HV : Hid (rrunsV l = (o, decide (o ≠ []))) := by
        unfold Hid rrunsV
        rw [HR.out, hdn, runsV_nil]
        simp only [Option.map_some, List.append_nil]
        rw [if_pos HND.out]
      have hpe : ¬ l.length < S.size := by rw [HSZ.out]; omega
      clear hdn HR
      cases o with
      | nil =>
        go_wp2_with fail
        refine bodyPost_ret (v := .tuple #[.slice ad 0 c0, .bool false]) (by simp [results, Tryd.f33, go_sem]) rfl ⟨ad, c0, by rw [HV.out]; rfl, by rw [HV.out]; exact HOWN.out, HBL.out⟩
      | cons f0 o1 =>
        have hlp : 0 < (f0 :: o1).length := by simp
        have hlp2 : 0 < ((f0 :: o1).length : Int) := by omega
        have hne : decide (f0 :: o1 ≠ []) = true := by simp
        rw [hne] at HV
        generalize f0 :: o1 = o at *
        clear hne
        go_wp2_with fail
        refine bodyPost_ret (v := .tuple #[.slice ad o.length c0, .bool true]) (by simp [results, Tryd.f33, go_sem]) rfl ⟨ad, c0, by rw [HV.out], by rw [HV.out]; exact HOWN.out, HBL.out⟩
end Go.Proofs.YtaolbfbnjbpljaaDoor
/- Walk: whether a pattern fits a skeleton, by the reference. -/
namespace Go.Proofs.YtaolbfbnjbpljaaDoor
open Go.RowKit
attribute [local go_sem] Ext.cell Ext.frozen
attribute [local go_sem ↓] Go.wp_at_zero Go.wp_at_succ
theorem eq4b (a0 a1 a2 a3 b0 b1 b2 b3 : Bool) (W : World) : (binOp .eql 69 (A4 a0 a1 a2 a3) (A4 b0 b1 b2 b3)).run Tryd.prog W = .ok (.bool (a0 == b0 && (a1 == b1 && (a2 == b2 && a3 == b3)))) W := by
  unfold A4
  cases a0 <;> cases a1 <;> cases a2 <;> cases a3 <;> cases b0 <;> cases b1 <;> cases b2 <;> cases b3 <;> (show _ = _; kernel_rfl)
theorem kindsY_dec (fs gs : List (List UInt8)) : (kindA fs 0 == kindA gs 0 && (kindA fs 1 == kindA gs 1 && (kindA fs 2 == kindA gs 2 && kindA fs 3 == kindA gs 3))) = decide (kindsA fs = kindsA gs) := by
  rw [Bool.eq_iff_iff]
  unfold kindsA
  simp
theorem eq4 (fs gs : List (List UInt8)) (W : World) : (binOp .eql 69 (kindsL4 fs) (kindsL4 gs)).run Tryd.prog W = .ok (.bool (decide (kindsA fs = kindsA gs))) W := by
  rw [← kindsY_dec]
  exact eq4b ..
theorem eqY4b (a0 a1 a2 a3 b0 b1 b2 b3 : Bool) (x y : Operand) (W : World) : (eqGuard .eql 69 x y (A4 a0 a1 a2 a3) (A4 b0 b1 b2 b3)).run Tryd.prog W = .ok () W := by kernel_rfl
theorem eqY4 (x y : Operand) (fs gs : List (List UInt8)) (W : World) : (eqGuard .eql 69 x y (kindsL4 fs) (kindsL4 gs)).run Tryd.prog W = .ok () W := eqY4b ..
theorem hds_kind {fs : List (List UInt8)} (h : ∀ f ∈ fs, isFld f = true) {x : List UInt8} (hx : x ∈ hds fs) : ∃ i, i < 4 ∧ x = [kindsL.getD i 0] := by
  unfold hds at hx
  obtain ⟨f, hf, rfl⟩ := List.mem_map.1 hx
  obtain ⟨i, t, hi, e⟩ := fld_head (h f hf)
  exact ⟨i, hi, by rw [e]; rfl⟩
theorem kinds_sameB {fs gs : List (List UInt8)} (hf : ∀ f ∈ fs, isFld f = true) (hg : ∀ g ∈ gs, isFld g = true) : decide (kindsA fs = kindsA gs) = sameB fs gs := by
  have hk : kindsA fs = kindsA gs ↔ ∀ i, i < 4 → kindA fs i = kindA gs i := by
    unfold kindsA
    constructor
    · intro h i hi
      simp only [List.cons.injEq, and_true] at h
      have hi' : i = 0 ∨ i = 1 ∨ i = 2 ∨ i = 3 := by omega
      rcases hi' with e | e | e | e <;> subst e
      · exact h.1
      · exact h.2.1
      · exact h.2.2.1
      · exact h.2.2.2
    · intro h
      rw [h 0 (by omega), h 1 (by omega), h 2 (by omega), h 3 (by omega)]
  rw [Bool.eq_iff_iff, decide_eq_true_eq, hk]
  unfold sameB
  simp only [Bool.and_eq_true, List.all_eq_true, List.contains_iff_mem]
  constructor
  · intro h
    refine ⟨fun x hx => ?_, fun x hx => ?_⟩
    · obtain ⟨i, hi, rfl⟩ := hds_kind hf hx
      rw [← kindA_mem, ← h i hi]; exact kindA_mem.2 hx
    · obtain ⟨i, hi, rfl⟩ := hds_kind hg hx
      rw [← kindA_mem, h i hi]; exact kindA_mem.2 hx
  · rintro ⟨h1, h2⟩ i hi
    rw [Bool.eq_iff_iff]
    exact ⟨fun h => kindA_mem.2 (h1 _ (kindA_mem.1 h)), fun h => kindA_mem.2 (h2 _ (kindA_mem.1 h))⟩
theorem dateV_none {s p : List UInt8} (h : fieldsV s = none) : dateV s p = false := by unfold dateV; rw [h]
theorem dateV_run {s p : List UInt8} (h : (rrunsV p).2 = false) : dateV s p = false := by
  rw [date_eq]
  unfold dateW
  unfold rrunsV at h
  cases h1 : fieldsV s with
  | none => rfl
  | some a =>
    cases h2 : runsV p.length p with
    | none => rfl
    | some g =>
      rw [h2] at h
      simp only at h ⊢
      by_cases hn : (hds g).Nodup
      · rw [if_pos hn] at h
        replace h : decide (g ≠ []) = false := h
        rw [h]; rfl
      · rw [decide_eq_false hn, Bool.false_and, Bool.and_false]
theorem dateV_yes {s p : List UInt8} {a : List (List UInt8)} (h1 : fieldsV s = some a) (h : (rrunsV p).2 = true) : dateV s p = decide (kindsA a = kindsA (rrunsV p).1) ∧ (∀ g ∈ (rrunsV p).1, isFld g = true) := by
  have key : ∃ g, runsV p.length p = some g ∧ (hds g).Nodup ∧ decide (g ≠ []) = true ∧ rrunsV p = (g, true) := by
    unfold rrunsV at h ⊢
    cases h2 : runsV p.length p with
    | none => rw [h2] at h; cases h
    | some g =>
      rw [h2] at h
      simp only at h ⊢
      by_cases hn : (hds g).Nodup
      · rw [if_pos hn] at h ⊢
        replace h : decide (g ≠ []) = true := h
        exact ⟨g, rfl, hn, h, by rw [h]⟩
      · rw [if_neg hn] at h; cases h
  obtain ⟨g, h2, hn, h3, e⟩ := key
  have hg := runsV_fld h2
  rw [e]
  refine ⟨?_, hg⟩
  rw [date_eq, kinds_sameB (fieldsV_some h1).2.2 hg]
  unfold dateW
  rw [h1, h2]
  simp only
  rw [h3, decide_eq_true hn]
  rfl
theorem runsV_len : ∀ {n : Nat} {s : List UInt8} {g : List (List UInt8)}, runsV n s = some g → g.length ≤ n
  | 0, s, g, h => by injection h with h; subst h; exact Nat.le_refl _
  | n + 1, [], g, h => by injection h with h; subst h; exact Nat.zero_le _
  | n + 1, c :: s, g, h => by
    rw [runsV] at h
    split at h
    · exact Nat.le_succ_of_le (runsV_len h)
    · split at h
      · obtain ⟨r, hr, rfl⟩ := Option.map_eq_some_iff.1 h
        have := runsV_len hr
        simp; exact this
      · cases h
set_option maxRecDepth 20000 in
set_option maxHeartbeats 8000000 in
theorem rdate13_any (s p : List UInt8) (w : World) (hs : s.length ≤ 1000) (hp : p.length ≤ 1000) : Calls Tryd.prog 12 #[.string (bs s), .string (bs p)] w fun e w' => e = .returned (.bool (dateV s p)) ∧ Below w.heap.size w w' := by
  have HFI := Lib.hid (fun w => rfields_any (bs s) w (by rw [bs_size]; omega))
  rw [bs_data] at HFI
  have HRU := Lib.hid (fun w => rruns_any p w hp)
  have hrl : (rrunsV p).1.length ≤ 1000 := by
    unfold rrunsV
    split
    · rename_i g hg
      split
      · exact Nat.le_trans (runsV_len hg) hp
      · exact Nat.zero_le _
    · exact Nat.zero_le _
  generalize bs s = SS at *
  generalize bs p = SP at *
  go_enter Tryd.func12, Tryd.ntmps12
  go_wp2_with fail
  refine (HFI.out _).mono ?_
  rintro e w2 ⟨hb2, ⟨hn, rfl⟩ | ⟨a, ad, c, ha, rfl, hown⟩⟩
  · have HR := Lib.hid (dateV_none (p := p) hn)
    have HB2 := Lib.hid hb2
    clear hb2 hn
    go_wp2_with fail
    refine (HRU.out _).mono ?_
    rintro e w3 ⟨ad3, c3, rfl, -, hb3⟩
    have HB3 : Hid (Below w.heap.size w w3) := HB2.out.trans (hb3.mono HB2.out.size)
    clear hb3
    generalize rrunsV p = RV at *
    obtain ⟨rv, rb⟩ := RV
    go_wp2_with fail
    go_ret
    exact ⟨by rw [HR.out]; rfl, HB3.out⟩
  · have HB2 := Lib.hid hb2
    have HOW := Lib.hid (Own.sl hown)
    have HAF := Lib.hid (fieldsV_some ha)
    have HYE := Lib.hid (fun h => dateV_yes (p := p) ha h)
    have HNO := Lib.hid (fun h => dateV_run (s := s) (p := p) h)
    clear hb2 hown ha
    go_wp2_with fail
    refine (HRU.out _).mono ?_
    rintro e w3 ⟨ad3, c3, rfl, hown3, hb3⟩
    have HB3 : Hid (Below w.heap.size w w3) := HB2.out.trans (hb3.mono HB2.out.size)
    have HO3 := Lib.hid (Own.sl hown3)
    have HOW3 := Lib.hid (HOW.out.below hb3)
    clear hb3 hown3
    generalize rrunsV p = RV at *
    obtain ⟨rv, rb⟩ := RV
    simp only at HYE HNO HO3 hrl
    cases rb
    · have HR := Lib.hid (HNO.out rfl)
      clear HYE HNO
      go_wp2_with fail
      go_ret
      exact ⟨by rw [HR.out]; rfl, HB3.out⟩
    · obtain ⟨hr, hrf⟩ := HYE.out rfl
      have HR := Lib.hid hr
      have HRF := Lib.hid hrf
      have heq := eq4 a rv
      have heg := fun x y => eqY4 x y a rv
      have HK1 := Lib.hid (fun w h => rkinds_any ad a.length c a w h HAF.out.2.2 (by have := HAF.out.2.1; omega))
      have HK2 := Lib.hid (fun w h => rkinds_any ad3 rv.length c3 rv w h HRF.out hrl)
      generalize decide (kindsA a = kindsA rv) = DK at *
      generalize kindsL4 a = KA at *
      generalize kindsL4 rv = KB at *
      clear HYE HNO hr hrf
      go_wp2_with fail
      refine (HK1.out _ HOW3.out).mono ?_
      rintro e w4 ⟨rfl, hb4⟩
      have HB4 : Hid (Below w.heap.size w w4) := HB3.out.trans (hb4.mono HB3.out.size)
      have HO4 := Lib.hid (HO3.out.below hb4)
      clear hb4
      go_wp2_with fail
      refine (HK2.out _ HO4.out).mono ?_
      rintro e w5 ⟨rfl, hb5⟩
      have HB5 : Hid (Below w.heap.size w w5) := HB4.out.trans (hb5.mono HB4.out.size)
      clear hb5
      go_wp2_with fail
      go_ret
      exact ⟨by rw [HR.out]; rfl, HB5.out⟩
end Go.Proofs.YtaolbfbnjbpljaaDoor
/- ValidatePatterns: Fields, Date and Pattern return what is specified. -/
namespace Go.Proofs.YtaolbfbnjbpljaaDoor
open Go.RowKit
attribute [local go_sem] Ext.cell Ext.frozen
attribute [local go_sem ↓] Go.wp_at_zero Go.wp_at_succ
def fldL (s : List UInt8) : List (List UInt8) := (fieldsV s).getD []
def fldC (s : List UInt8) : Nat := if (fieldsV s).isSome then 0 else 3
/-- what Fields answers, with or without an error -/
def FldP (s : List UInt8) (w : World) (e : Ending) (w' : World) : Prop :=
  ∃ ad c, e = .returned (.tuple #[.slice ad (fldL s).length c, .int .i64 (fldC s : Int)]) ∧ Sl w' ad (fldL s).length (strs ((fldL s).map bs)) ∧ Below w.heap.size w w'
theorem fldP_of {s : List UInt8} {w : World} {e : Ending} {w' : World} (h : FieldsPost s w e w') : FldP s w e w' := by
  unfold FldP fldL fldC
  obtain ⟨hb, ⟨hn, rfl⟩ | ⟨fs, ad, c, hf, rfl, hown⟩⟩ := h
  · rw [hn]
    exact ⟨none, 0, rfl, ⟨0, 0, ⟨rfl, by simp, fun h => absurd rfl h, fun i hi => absurd hi (Nat.not_lt_zero _)⟩⟩, hb⟩
  · rw [hf]
    exact ⟨ad, c, rfl, Own.sl hown, hb⟩
theorem fldL_len (s : List UInt8) : (fldL s).length ≤ 4 := by
  unfold fldL
  cases h : fieldsV s with
  | none => exact Nat.zero_le _
  | some fs => exact (fieldsV_some h).2.1
theorem aw_f : fieldsV [121, 77, 77, 77, 69, 100] = some [[121], [77, 77, 77], [69], [100]] := by decide +kernel
theorem aw_d1 : dateV [121, 77, 100] [100, 46, 77, 77, 46, 121] = true := by rw [date_eq]; decide +kernel
theorem aw_d2 : dateV [121, 77, 77, 77, 69, 100] [100, 46, 77, 77, 46, 121] = false := by rw [date_eq]; decide +kernel
set_option maxRecDepth 20000 in
set_option maxHeartbeats 4000000 in
theorem awake13_any (w : World) : Calls Tryd.prog 8 #[] w fun e w' => e = .returned (.bool true) ∧ Below w.heap.size w w' := by
  have HF : Hid (Calls Tryd.prog 9 #[.string ⟨#[121, 77, 77, 77, 69, 100]⟩] w (FieldsPost [121, 77, 77, 77, 69, 100] w)) := fields_any ⟨#[121, 77, 77, 77, 69, 100]⟩ w (by decide)
  have HD1 : Hid (∀ w, Calls Tryd.prog 11 #[.string ⟨#[121, 77, 100]⟩, .string ⟨#[100, 46, 77, 77, 46, 121]⟩] w fun e w' => e = .returned (.bool true) ∧ Below w.heap.size w w') := fun w => by
    have := date_any ⟨#[121, 77, 100]⟩ ⟨#[100, 46, 77, 77, 46, 121]⟩ w (by decide) (by decide)
    rwa [show dateV (⟨#[121, 77, 100]⟩ : ByteArray).data.toList (⟨#[100, 46, 77, 77, 46, 121]⟩ : ByteArray).data.toList = true from aw_d1] at this
  have HD2 : Hid (∀ w, Calls Tryd.prog 11 #[.string ⟨#[121, 77, 77, 77, 69, 100]⟩, .string ⟨#[100, 46, 77, 77, 46, 121]⟩] w fun e w' => e = .returned (.bool false) ∧ Below w.heap.size w w') := fun w => by
    have := date_any ⟨#[121, 77, 77, 77, 69, 100]⟩ ⟨#[100, 46, 77, 77, 46, 121]⟩ w (by decide) (by decide)
    rwa [show dateV (⟨#[121, 77, 77, 77, 69, 100]⟩ : ByteArray).data.toList (⟨#[100, 46, 77, 77, 46, 121]⟩ : ByteArray).data.toList = false from aw_d2] at this
  go_enter Tryd.func8, Tryd.ntmps8
  go_wp2_with fail
  refine HF.out.mono ?_
  rintro e w2 ⟨hb2, ⟨hn, _⟩ | ⟨fs, ad, c, hf, rfl, hown⟩⟩
  · rw [aw_f] at hn; cases hn
  · rw [aw_f] at hf
    injection hf with hf
    subst hf
    obtain ⟨b, off, hsa⟩ := Own.sl hown
    have h1 := hsa.cell 1 (by decide)
    replace h1 : w2.cell? ⟨b, off + 1, none⟩ = some (.string ⟨#[77, 77, 77]⟩) := h1
    have hix : ∀ W, (Instr.indexAt 23 (.slice ad 4 c) (.int .i64 1)).run Tryd.prog W = .ok (.pointer (some ⟨b, off + 1, none⟩)) W := fun W => hsa.ix (c := c) 23 9 Tryd.underlying23 cellsStr2 (k := 1) (by decide) W
    have HB2 := Lib.hid hb2
    clear hb2 hown hsa
    go_wp2_with fail
    refine (HD1.out _).mono ?_
    rintro e w3 ⟨rfl, hb3⟩
    have HB3 : Hid (Below w.heap.size w w3) := HB2.out.trans (hb3.mono HB2.out.size)
    clear hb3
    go_wp2_with fail
    refine (HD2.out _).mono ?_
    rintro e w4 ⟨rfl, hb4⟩
    have HB4 : Hid (Below w.heap.size w w4) := HB3.out.trans (hb4.mono HB3.out.size)
    clear hb4
    go_wp2_with fail
    go_ret
    exact ⟨rfl, HB4.out⟩
set_option maxRecDepth 20000 in
set_option maxHeartbeats 8000000 in
theorem validatePatterns_walk (sa sb : ByteArray) (z : Int) (w : World) (hsa : sa.size ≤ 9223372036854775807) (hsb : sb.size ≤ 9223372036854775807) (hz : -9223372036854775808 ≤ z ∧ z ≤ 9223372036854775807) (hM : MaxLenY w) :
    Calls Tryd.prog 3 #[.string sa, .string sb, .int .i64 z] w fun e w' => e = .returned (.bool true) ∧ Below w.heap.size w w' := by
  have HA := Lib.hid awake13_any
  by_cases h1 : sa.size ≤ 100
  rotate_left
  · have g1 : 100 < (sa.size : Int) := by omega
    clear hM hz
    go_enter Tryd.func3, Tryd.ntmps3
    go_wp2_with fail
    refine (HA.out _).mono ?_
    rintro e w1 ⟨rfl, hb1⟩
    have HB1 := Lib.hid hb1
    clear hb1
    go_wp2_with fail
    refine (HA.out _).mono ?_
    rintro e w2 ⟨rfl, hb2⟩
    have HB2 : Hid (Below w.heap.size w w2) := HB1.out.trans (hb2.mono HB1.out.size)
    clear hb2
    go_wp2_with fail
    go_ret
    exact ⟨rfl, HB2.out⟩
  have g1 : ¬ 100 < (sa.size : Int) := by omega
  by_cases h2 : sb.size ≤ 100
  rotate_left
  · have g2 : 100 < (sb.size : Int) := by omega
    clear hM hz
    go_enter Tryd.func3, Tryd.ntmps3
    go_wp2_with fail
    refine (HA.out _).mono ?_
    rintro e w1 ⟨rfl, hb1⟩
    have HB1 := Lib.hid hb1
    clear hb1
    go_wp2_with fail
    refine (HA.out _).mono ?_
    rintro e w2 ⟨rfl, hb2⟩
    have HB2 : Hid (Below w.heap.size w w2) := HB1.out.trans (hb2.mono HB1.out.size)
    clear hb2
    go_wp2_with fail
    go_ret
    exact ⟨rfl, HB2.out⟩
  have g2 : ¬ 100 < (sb.size : Int) := by omega
  obtain ⟨la, hla⟩ : ∃ l, sa.data.toList = l := ⟨_, rfl⟩
  obtain rfl : sa = bs la := by rw [← hla]; rfl
  obtain ⟨lb, hlb⟩ : ∃ l, sb.data.toList = l := ⟨_, rfl⟩
  obtain rfl : sb = bs lb := by rw [← hlb]; rfl
  clear hla hlb
  have hza : (bs la).size = la.length := bs_size la
  have hzb : (bs lb).size = lb.length := bs_size lb
  have HF1 : Hid (∀ w, Calls Tryd.prog 9 #[.string (bs la)] w (FldP la w)) := fun w => by
    have := (fields_any (bs la) w (by omega)).mono (fun e w' h => fldP_of h)
    rwa [bs_data] at this
  have HF2 : Hid (∀ w, Calls Tryd.prog 10 #[.string (bs la)] w (FldP la w)) := fun w => by
    have := (rfields_any (bs la) w (by omega)).mono (fun e w' h => fldP_of h)
    rwa [bs_data] at this
  have HD1 : Hid (∀ w, Calls Tryd.prog 11 #[.string (bs la), .string (bs lb)] w fun e w' => e = .returned (.bool (dateV la lb)) ∧ Below w.heap.size w w') := fun w => by
    have := date_any (bs la) (bs lb) w (by omega) (by omega)
    rwa [bs_data, bs_data] at this
  have HD2 := Lib.hid (fun w => rdate13_any la lb w (by omega) (by omega))
  have HP1 := Lib.hid (fun w' (h : Below w.heap.size w w') => pattern_any lb z w' (by omega) hz.1 hz.2 (hM.below h))
  have HP2 := Lib.hid (fun w' => rpattern_any lb z w' (by omega) hz.1 hz.2)
  have hfl := fldL_len la
  have gcc : ((fldC la : Int) == (fldC la : Int)) = true := by simp
  have gcd : ((fldC la : Int) != (fldC la : Int)) = false := by simp
  unfold FldP at HF1 HF2
  clear hM hz hza hzb h1 h2
  generalize fldL la = fs at *
  generalize fldC la = fc at *
  generalize dateV la lb = DV at *
  generalize patZ lb z = PV at *
  generalize bs la = SA at *
  generalize bs lb = SB at *
  have gdd : (DV == DV) = true := by simp
  have gpp : (PV == PV) = true := by simp
  obtain ⟨n, hn⟩ : ∃ n, fs.length = n := ⟨_, rfl⟩
  rw [hn] at HF1 HF2 hfl
  have HN := Lib.hid hn
  clear hn
  go_enter Tryd.func3, Tryd.ntmps3
  go_wp2_with fail
  refine (HA.out _).mono ?_
  rintro e w1 ⟨rfl, hb1⟩
  have HB1 := Lib.hid hb1
  clear hb1
  go_wp2_with fail
  refine (HF1.out _).mono ?_
  rintro e w2 ⟨ad, c, rfl, hsl, hb2⟩
  have HB2 : Hid (Below w.heap.size w w2) := HB1.out.trans (hb2.mono HB1.out.size)
  have HS2 := Lib.hid hsl
  clear hb2 hsl
  go_wp2_with fail
  refine (HF2.out _).mono ?_
  rintro e w3 ⟨ad', c', rfl, hsl3, hb3⟩
  have HB3 : Hid (Below w.heap.size w w3) := HB2.out.trans (hb3.mono HB2.out.size)
  obtain ⟨b1, o1, hx1⟩ := HS2.out.below hb3
  obtain ⟨b2, o2, hx2⟩ := hsl3
  have HX1 := Lib.hid hx1
  have HX2 := Lib.hid hx2
  clear hb3 hx1 hx2 HS2
  have gnn : ((n : Int) == (n : Int)) = true := by simp
  go_wp2_with fail
  go_loopw [47] (fun v wr => ∃ k : Nat, v = .int .i64 (k : Int) ∧ k ≤ n ∧ Below w3.heap.size w3 wr) (fun v _ => n - (intOf v).toNat)
  case atStart => exact ⟨0, rfl, Nat.zero_le _, Below.refl _ _⟩
  case round =>
    obtain ⟨k, rfl, hk, hbl⟩ := hrel
    have HBL := Lib.hid hbl
    have hzr := hbl.size
    clear hbl
    by_cases hlt : k < n
    · have hx1 := HX1.out.below HBL.out
      have hx2 := HX2.out.below HBL.out
      have hix1 := fun W => hx1.ix (c := c) 23 9 Tryd.underlying23 cellsStr2 hlt W
      have hix2 := fun W => hx2.ix (c := c') 23 9 Tryd.underlying23 cellsStr2 hlt W
      have hc1 := hx1.cell k hlt
      have hc2 := hx2.cell k hlt
      rw [strs_getD _ _ (by rw [List.length_map, HN.out]; exact hlt)] at hc1 hc2
      have hq1 := hx1.block (by omega)
      have hq2 := hx2.block (by omega)
      clear hx1 hx2
      generalize (fs.map bs).getD k .empty = X at *
      have gxx : (X.toList != X.toList) = false := by simp
      go_wp2_with fail
      refine wp_region_ext (by kernel_rfl) (by kernel_rfl) ?_
      repeat (go_big_quiet_step (fail))
      refine wpQuiet_nil ?_
      intro _ hw'
      obtain ⟨X9, hw''⟩ := hw'
      subst hw''
      have HX9 : Hid (Below w3.heap.size w3 X9.1) := HBL.out.trans (X9.2.mono hzr)
      go_wp2_with fail
      go_roundw
      case rel => exact ⟨k + 1, by go_num, hlt, HX9.out⟩
      case measure => simp [intOf]; omega
    · obtain rfl : k = n := by omega
      have HBK : Hid (Below w.heap.size w wr) := HB3.out.trans (HBL.out.mono HB3.out.size)
      clear HF1 HF2 HX1 HX2
      go_wp2_with fail
      refine (HD1.out _).mono ?_
      rintro e w4 ⟨rfl, hb4⟩
      have HB4 : Hid (Below w.heap.size w w4) := HBK.out.trans (hb4.mono HBK.out.size)
      clear hb4
      go_wp2_with fail
      refine (HD2.out _).mono ?_
      rintro e w5 ⟨rfl, hb5⟩
      have HB5 : Hid (Below w.heap.size w w5) := HB4.out.trans (hb5.mono HB4.out.size)
      clear hb5
      go_wp2_with fail
      refine (HP1.out _ HB5.out).mono ?_
      rintro e w6 ⟨rfl, hb6⟩
      have HB6 : Hid (Below w.heap.size w w6) := HB5.out.trans (hb6.mono HB5.out.size)
      clear hb6
      go_wp2_with fail
      refine (HP2.out _).mono ?_
      rintro e w7 ⟨rfl, hb7⟩
      have HB7 : Hid (Below w.heap.size w w7) := HB6.out.trans (hb7.mono HB6.out.size)
      clear hb7
      go_wp2_with fail
      go_ret
      exact ⟨rfl, HB7.out⟩
end Go.Proofs.YtaolbfbnjbpljaaDoor
