/- Walk: the reference's Next, of any string that is not empty: it is the decoder's step. -/
import Derived.Test.YtpionddponmdmaaGreatDoorQ39
import Derived.Deep.QuietTactic
import Derived.Deep.DeepCutAuto
import Derived.BigQuiet
namespace Go.Proofs.YtpionddponmdmaaGreatDoor
open Go.RowKit
attribute [local go_sem] Ext.cell Ext.frozen
attribute [local go_sem ↓] Go.wp_at_zero Go.wp_at_succ
set_option maxRecDepth 20000 in
set_option maxHeartbeats 4000000 in
theorem rnext_small (l : List UInt8) (hne : l ≠ []) (hl : l.length ≤ 100000) (hs : (l.getD 0 0).toNat < 192 ∨ 248 ≤ (l.getD 0 0).toNat) (w : World) : Calls Tryz.prog 67 #[.string (bs l)] w (NxtP l w) := by
  have hsz : (bs l).size = l.length := bs_size l
  have HSZ := Lib.hid hsz
  have h1 := len_pos hne
  have hle : (bs l).size ≤ 100000 := by omega
  have hps : 0 < (bs l).size := by omega
  have HAT : Hid (∀ (i : Nat) (g : i < (bs l).size), (bs l)[i]'g = l.getD i 0) := fun i g => ba_at l g
  have hat0 : ∀ g : 0 < (bs l).size, (bs l)[0]'g = l.getD 0 0 := fun g => HAT.out 0 g
  have hb := (l.getD 0 0).toNat_lt
  have HEX := Lib.hid (fun n => bs_extract l 0 n)
  by_cases h128 : (l.getD 0 0).toNat < 128
  · have HD := Lib.hid (dec_ascii h128)
    have g1 : ((l.getD 0 0).toNat : Int) < 128 := by omega
    generalize l.getD 0 0 = b at *
    generalize bs l = S at *
    clear hs h128 hsz
    go_enter Tryz.func67, Tryz.ntmps67
    go_wp2_with fail
    exact bodyPost_ret (v := .tuple #[.int .i64 (b.toNat : Int), .int .i64 1]) (by simp [results, Tryz.f67, go_sem]) rfl (NxtP.of HD.out (Below.refl _ _))
  · have HD := Lib.hid (dec_odd (l := l) (by omega))
    have g1 : ¬ ((l.getD 0 0).toNat : Int) < 128 := by omega
    rcases (show (l.getD 0 0).toNat < 192 ∨ (192 ≤ (l.getD 0 0).toNat ∧ 248 ≤ (l.getD 0 0).toNat) by omega) with h | ⟨h, h3⟩
    · have g2 : ¬ 192 ≤ ((l.getD 0 0).toNat : Int) := by omega
      have g3 : ¬ 224 ≤ ((l.getD 0 0).toNat : Int) := by omega
      have g4 : ¬ 240 ≤ ((l.getD 0 0).toNat : Int) := by omega
      generalize l.getD 0 0 = b at *
      generalize bs l = S at *
      clear hs h128 hsz h
      go_enter Tryz.func67, Tryz.ntmps67
      go_wp2_with fail
      exact bodyPost_ret (v := .tuple #[.int .i64 65533, .int .i64 1]) (by simp [results, Tryz.f67, go_sem]) rfl (NxtP.of HD.out (Below.refl _ _))
    · have g2 : 192 ≤ ((l.getD 0 0).toNat : Int) := by omega
      have g3 : 224 ≤ ((l.getD 0 0).toNat : Int) := by omega
      have g4 : 240 ≤ ((l.getD 0 0).toNat : Int) := by omega
      have g5 : ¬ ((l.getD 0 0).toNat : Int) < 224 := by omega
      have g6 : ¬ ((l.getD 0 0).toNat : Int) < 240 := by omega
      have g7 : ¬ ((l.getD 0 0).toNat : Int) < 248 := by omega
      generalize l.getD 0 0 = b at *
      generalize bs l = S at *
      clear hs h128 hsz h h3
      go_enter Tryz.func67, Tryz.ntmps67
      go_wp2_with fail
      exact bodyPost_ret (v := .tuple #[.int .i64 65533, .int .i64 1]) (by simp [results, Tryz.f67, go_sem]) rfl (NxtP.of HD.out (Below.refl _ _))
set_option maxRecDepth 20000 in
set_option maxHeartbeats 8000000 in
theorem rnext_2 (l : List UInt8) (hne : l ≠ []) (hl : l.length ≤ 100000) (hb1 : 192 ≤ (l.getD 0 0).toNat) (hb2 : (l.getD 0 0).toNat < 224) (w : World) : Calls Tryz.prog 67 #[.string (bs l)] w (NxtP l w) := by
  have hsz : (bs l).size = l.length := bs_size l
  have HSZ := Lib.hid hsz
  have h1 := len_pos hne
  have hle : (bs l).size ≤ 100000 := by omega
  have hps : 0 < (bs l).size := by omega
  have HAT : Hid (∀ (i : Nat) (g : i < (bs l).size), (bs l)[i]'g = l.getD i 0) := fun i g => ba_at l g
  have hat0 : ∀ g : 0 < (bs l).size, (bs l)[0]'g = l.getD 0 0 := fun g => HAT.out 0 g
  have hb := (l.getD 0 0).toNat_lt
  have HEX := Lib.hid (fun n => bs_extract l 0 n)
  have hlb : LeadB (l.getD 0 0).toNat 2 ((l.getD 0 0).toNat - 192) := by unfold LeadB; omega
  have g1 : ¬ ((l.getD 0 0).toNat : Int) < 128 := by omega
  have g2 : 192 ≤ ((l.getD 0 0).toNat : Int) := by omega
  have g3 : ((l.getD 0 0).toNat : Int) < 224 := by omega
  have hn0z := lead_n0 hlb
  have HN0 : Hid ((((l.getD 0 0).toNat - 192 : Nat) : Int) = ((l.getD 0 0).toNat : Int) - 192) := by unfold Hid; omega
  have HDS := Lib.hid (fun h => dec_short hlb h)
  have HDC := Lib.hid (fun i h0 h1 h => dec_cont (i := i) hlb h0 h1 h)
  have HDE := Lib.hid (fun h1 h2 => dec_end hne hlb h1 h2)
  clear hlb
  generalize (l.getD 0 0).toNat - 192 = n0 at *
  generalize l.getD 0 0 = b at *
  by_cases hsh : l.length < 2
  · have HD := Lib.hid (HDS.out hsh)
    have g9 : ((bs l).size : Int) < 2 := by omega
    generalize bs l = S at *
    clear hsz hb1 hb2 hsh HDS HDC HDE
    go_enter Tryz.func67, Tryz.ntmps67
    go_wp2_with fail
    exact bodyPost_ret (v := .tuple #[.int .i64 65533, .int .i64 1]) (by simp [results, Tryz.f67, go_sem]) rfl (NxtP.of HD.out (Below.refl _ _))
  have g9 : ¬ ((bs l).size : Int) < 2 := by omega
  have HKL : Hid (2 ≤ l.length) := by unfold Hid; omega
  have hks : 2 ≤ (bs l).size := by omega
  generalize bs l = S at *
  clear hsz hsh HDS
  go_enter Tryz.func67, Tryz.ntmps67
  go_wp2_with fail
  go_loopw [4, 6] (fun n i wr => ∃ j : Nat, j + 1 ≤ 2 ∧ i = .int .i64 ((j : Int) + 1) ∧ n = .int .i64 (cvV l n0 j : Int) ∧ (∀ q, 1 ≤ q → q < j + 1 → ContB l q) ∧ wr = w) (fun _ i _ => 2 - (intOf i).toNat)
  case atStart => exact ⟨0, by omega, rfl, by rw [show cvV l n0 0 = n0 from rfl, HN0.out], fun q h1 h2 => by omega, rfl⟩
  case round =>
    obtain ⟨j, hj, rfl, rfl, hco, rfl⟩ := hrel
    have HCO := Lib.hid hco
    have hcv := cvV_lt (l := l) hn0z j (by omega)
    have hcp : cvV l n0 j < 67108864 := by
      have : (64 : Nat) ^ j ≤ 64 ^ 3 := Nat.pow_le_pow_right (by omega) (by omega)
      omega
    clear hco hcv
    by_cases hlt : j + 1 < 2
    · have hat : ∀ g : j + 1 < S.size, S[j + 1]'g = l.getD (j + 1) 0 := fun g => HAT.out (j + 1) g
      have hjs : j + 1 < S.size := by omega
      have gj : (j : Int) + 1 < 2 := by omega
      have hz := (l.getD (j + 1) 0).toNat_lt
      by_cases hc : ContB l (j + 1)
      · have HCN : Hid (∀ q, 1 ≤ q → q < j + 1 + 1 → ContB l q) := fun q h1 h2 => by
          rcases Nat.lt_or_ge q (j + 1) with h | h
          · exact HCO.out q h1 h
          · rw [show q = j + 1 by omega]; exact hc
        have HCV : Hid ((cvV l n0 (j + 1) : Int) = 64 * (cvV l n0 j : Int) + ((l.getD (j + 1) 0).toNat : Int) - 128) := by
          have : cvV l n0 (j + 1) = 64 * cvV l n0 j + ((l.getD (j + 1) 0).toNat - 128) := rfl
          unfold Hid; rw [this]; have := hc.1; omega
        obtain ⟨c1, c2⟩ := hc
        have k1 : ¬ ((l.getD (j + 1) 0).toNat : Int) < 128 := by omega
        have k2 : ¬ 191 < ((l.getD (j + 1) 0).toNat : Int) := by omega
        clear HDC HDE
        generalize cvV l n0 j = v at *
        generalize l.getD (j + 1) 0 = c at *
        go_wp2_with fail
        go_roundw
        case rel => exact ⟨j + 1, by omega, by go_num, by rw [HCV.out], HCN.out, trivial⟩
        case measure => simp [intOf]; omega
      · have HD := Lib.hid (HDC.out _ (by omega) hlt hc)
        by_cases hc1 : (l.getD (j + 1) 0).toNat < 128
        · have k1 : ((l.getD (j + 1) 0).toNat : Int) < 128 := by omega
          clear HDC HDE
          generalize cvV l n0 j = v at *
          clear hc hc1
          generalize l.getD (j + 1) 0 = c at *
          go_wp2_with fail
          exact bodyPost_ret (v := .tuple #[.int .i64 65533, .int .i64 1]) (by simp [results, Tryz.f67, go_sem]) rfl (NxtP.of HD.out (Below.refl _ _))
        · have k1 : ¬ ((l.getD (j + 1) 0).toNat : Int) < 128 := by omega
          have k2 : 191 < ((l.getD (j + 1) 0).toNat : Int) := by unfold ContB at hc; omega
          clear HDC HDE
          generalize cvV l n0 j = v at *
          clear hc hc1
          generalize l.getD (j + 1) 0 = c at *
          go_wp2_with fail
          exact bodyPost_ret (v := .tuple #[.int .i64 65533, .int .i64 1]) (by simp [results, Tryz.f67, go_sem]) rfl (NxtP.of HD.out (Below.refl _ _))
    · obtain rfl : j = 1 := by omega
      have HD := Lib.hid (HDE.out HKL.out HCO.out)
      rw [show 2 - 1 = 1 from rfl] at HD
      have hcut : S.extract 0 2 = bs (l.take 2) := by have := HEX.out 2; rwa [List.drop_zero] at this
      clear HDC HDE HCO
      generalize cvV l n0 1 = v at *
      have HPT := Lib.hid (fun w => rpointw_any v (by omega) w)
      have HON := Lib.hid (fun h w => ronew_any v h w)
      cases hp : pointW v
      · rw [hp] at HPT HD
        have HD2 : Hid (Lib.decodeL l = (65533, 1)) := by unfold Hid; rw [HD.out, if_neg (by simp)]
        clear HD hp HON
        go_upto_region 6 with (fail)
        refine wp_region_ext (by kernel_rfl) (by kernel_rfl) ?_
        repeat (go_big_quiet_step ((go_at_call 65; exact Calls.ext_same (HPT.out _))))
        refine wpQuiet_nil ?_
        intro _ hw'
        obtain ⟨X9, hw''⟩ := hw'
        subst hw''
        have HX9 := Lib.hid X9.2
        go_wp2_with fail
        exact bodyPost_ret (v := .tuple #[.int .i64 65533, .int .i64 1]) (by simp [results, Tryz.f67, go_sem]) rfl (NxtP.of HD2.out HX9.out)
      · have hvm : v ≤ 1114111 := by rw [pointW_dec] at hp; have := of_decide_eq_true hp; omega
        have HO2 := Lib.hid (HON.out hvm)
        by_cases he : oneW v = l.take 2
        · have HD2 : Hid (Lib.decodeL l = (v, 2)) := by unfold Hid; rw [HD.out, if_pos ⟨hp, he⟩]
          rw [hp] at HPT
          rw [← he] at hcut
          generalize bs (oneW v) = X at *
          have hxx : (X.toList != X.toList) = false := by simp
          clear HD hp HON he
          go_upto_region 6 with (fail)
          refine wp_region_ext (by kernel_rfl) (by kernel_rfl) ?_
          repeat (go_big_quiet_step (first | (go_at_call 65; exact Calls.ext_same (HPT.out _)) | (go_at_call 66; exact Calls.ext (HO2.out _))))
          refine wpQuiet_nil ?_
          intro _ hw'
          obtain ⟨X9, hw''⟩ := hw'
          subst hw''
          have HX9 := Lib.hid X9.2
          go_wp2_with fail
          exact bodyPost_ret (v := .tuple #[.int .i64 (v : Int), .int .i64 2]) (by simp [results, Tryz.f67, go_sem]) rfl (NxtP.of HD2.out HX9.out)
        · have HD2 : Hid (Lib.decodeL l = (65533, 1)) := by unfold Hid; rw [HD.out, if_neg (fun h => he h.2)]
          rw [hp] at HPT
          have hxe : ((bs (oneW v)).toList == (bs (l.take 2)).toList) = false := by rw [bs_toList, bs_toList, beq_eq_false_iff_ne]; exact he
          have hxx : ((bs (oneW v)).toList != (bs (l.take 2)).toList) = true := by unfold bne; rw [hxe]; rfl
          generalize bs (oneW v) = X at *
          generalize bs (l.take 2) = Y at *
          clear HD hp HON he
          go_upto_region 6 with (fail)
          refine wp_region_ext (by kernel_rfl) (by kernel_rfl) ?_
          repeat (go_big_quiet_step (first | (go_at_call 65; exact Calls.ext_same (HPT.out _)) | (go_at_call 66; exact Calls.ext (HO2.out _))))
          refine wpQuiet_nil ?_
          intro _ hw'
          obtain ⟨X9, hw''⟩ := hw'
          subst hw''
          have HX9 := Lib.hid X9.2
          go_wp2_with fail
          exact bodyPost_ret (v := .tuple #[.int .i64 65533, .int .i64 1]) (by simp [results, Tryz.f67, go_sem]) rfl (NxtP.of HD2.out HX9.out)
set_option maxRecDepth 20000 in
set_option maxHeartbeats 8000000 in
theorem rnext_3 (l : List UInt8) (hne : l ≠ []) (hl : l.length ≤ 100000) (hb1 : 224 ≤ (l.getD 0 0).toNat) (hb2 : (l.getD 0 0).toNat < 240) (w : World) : Calls Tryz.prog 67 #[.string (bs l)] w (NxtP l w) := by
  have hsz : (bs l).size = l.length := bs_size l
  have HSZ := Lib.hid hsz
  have h1 := len_pos hne
  have hle : (bs l).size ≤ 100000 := by omega
  have hps : 0 < (bs l).size := by omega
  have HAT : Hid (∀ (i : Nat) (g : i < (bs l).size), (bs l)[i]'g = l.getD i 0) := fun i g => ba_at l g
  have hat0 : ∀ g : 0 < (bs l).size, (bs l)[0]'g = l.getD 0 0 := fun g => HAT.out 0 g
  have hb := (l.getD 0 0).toNat_lt
  have HEX := Lib.hid (fun n => bs_extract l 0 n)
  have hlb : LeadB (l.getD 0 0).toNat 3 ((l.getD 0 0).toNat - 224) := by unfold LeadB; omega
  have g1 : ¬ ((l.getD 0 0).toNat : Int) < 128 := by omega
  have g2 : 192 ≤ ((l.getD 0 0).toNat : Int) := by omega
  have g3 : ¬ ((l.getD 0 0).toNat : Int) < 224 := by omega
  have g4 : 224 ≤ ((l.getD 0 0).toNat : Int) := by omega
  have g5 : ((l.getD 0 0).toNat : Int) < 240 := by omega
  have hn0z := lead_n0 hlb
  have HN0 : Hid ((((l.getD 0 0).toNat - 224 : Nat) : Int) = ((l.getD 0 0).toNat : Int) - 224) := by unfold Hid; omega
  have HDS := Lib.hid (fun h => dec_short hlb h)
  have HDC := Lib.hid (fun i h0 h1 h => dec_cont (i := i) hlb h0 h1 h)
  have HDE := Lib.hid (fun h1 h2 => dec_end hne hlb h1 h2)
  clear hlb
  generalize (l.getD 0 0).toNat - 224 = n0 at *
  generalize l.getD 0 0 = b at *
  by_cases hsh : l.length < 3
  · have HD := Lib.hid (HDS.out hsh)
    have g9 : ((bs l).size : Int) < 3 := by omega
    generalize bs l = S at *
    clear hsz hb1 hb2 hsh HDS HDC HDE
    go_enter Tryz.func67, Tryz.ntmps67
    go_wp2_with fail
    exact bodyPost_ret (v := .tuple #[.int .i64 65533, .int .i64 1]) (by simp [results, Tryz.f67, go_sem]) rfl (NxtP.of HD.out (Below.refl _ _))
  have g9 : ¬ ((bs l).size : Int) < 3 := by omega
  have HKL : Hid (3 ≤ l.length) := by unfold Hid; omega
  have hks : 3 ≤ (bs l).size := by omega
  generalize bs l = S at *
  clear hsz hsh HDS
  go_enter Tryz.func67, Tryz.ntmps67
  go_wp2_with fail
  go_loopw [4, 6] (fun n i wr => ∃ j : Nat, j + 1 ≤ 3 ∧ i = .int .i64 ((j : Int) + 1) ∧ n = .int .i64 (cvV l n0 j : Int) ∧ (∀ q, 1 ≤ q → q < j + 1 → ContB l q) ∧ wr = w) (fun _ i _ => 3 - (intOf i).toNat)
  case atStart => exact ⟨0, by omega, rfl, by rw [show cvV l n0 0 = n0 from rfl, HN0.out], fun q h1 h2 => by omega, rfl⟩
  case round =>
    obtain ⟨j, hj, rfl, rfl, hco, rfl⟩ := hrel
    have HCO := Lib.hid hco
    have hcv := cvV_lt (l := l) hn0z j (by omega)
    have hcp : cvV l n0 j < 67108864 := by
      have : (64 : Nat) ^ j ≤ 64 ^ 3 := Nat.pow_le_pow_right (by omega) (by omega)
      omega
    clear hco hcv
    by_cases hlt : j + 1 < 3
    · have hat : ∀ g : j + 1 < S.size, S[j + 1]'g = l.getD (j + 1) 0 := fun g => HAT.out (j + 1) g
      have hjs : j + 1 < S.size := by omega
      have gj : (j : Int) + 1 < 3 := by omega
      have hz := (l.getD (j + 1) 0).toNat_lt
      by_cases hc : ContB l (j + 1)
      · have HCN : Hid (∀ q, 1 ≤ q → q < j + 1 + 1 → ContB l q) := fun q h1 h2 => by
          rcases Nat.lt_or_ge q (j + 1) with h | h
          · exact HCO.out q h1 h
          · rw [show q = j + 1 by omega]; exact hc
        have HCV : Hid ((cvV l n0 (j + 1) : Int) = 64 * (cvV l n0 j : Int) + ((l.getD (j + 1) 0).toNat : Int) - 128) := by
          have : cvV l n0 (j + 1) = 64 * cvV l n0 j + ((l.getD (j + 1) 0).toNat - 128) := rfl
          unfold Hid; rw [this]; have := hc.1; omega
        obtain ⟨c1, c2⟩ := hc
        have k1 : ¬ ((l.getD (j + 1) 0).toNat : Int) < 128 := by omega
        have k2 : ¬ 191 < ((l.getD (j + 1) 0).toNat : Int) := by omega
        clear HDC HDE
        generalize cvV l n0 j = v at *
        generalize l.getD (j + 1) 0 = c at *
        go_wp2_with fail
        go_roundw
        case rel => exact ⟨j + 1, by omega, by go_num, by rw [HCV.out], HCN.out, trivial⟩
        case measure => simp [intOf]; omega
      · have HD := Lib.hid (HDC.out _ (by omega) hlt hc)
        by_cases hc1 : (l.getD (j + 1) 0).toNat < 128
        · have k1 : ((l.getD (j + 1) 0).toNat : Int) < 128 := by omega
          clear HDC HDE
          generalize cvV l n0 j = v at *
          clear hc hc1
          generalize l.getD (j + 1) 0 = c at *
          go_wp2_with fail
          exact bodyPost_ret (v := .tuple #[.int .i64 65533, .int .i64 1]) (by simp [results, Tryz.f67, go_sem]) rfl (NxtP.of HD.out (Below.refl _ _))
        · have k1 : ¬ ((l.getD (j + 1) 0).toNat : Int) < 128 := by omega
          have k2 : 191 < ((l.getD (j + 1) 0).toNat : Int) := by unfold ContB at hc; omega
          clear HDC HDE
          generalize cvV l n0 j = v at *
          clear hc hc1
          generalize l.getD (j + 1) 0 = c at *
          go_wp2_with fail
          exact bodyPost_ret (v := .tuple #[.int .i64 65533, .int .i64 1]) (by simp [results, Tryz.f67, go_sem]) rfl (NxtP.of HD.out (Below.refl _ _))
    · obtain rfl : j = 2 := by omega
      have HD := Lib.hid (HDE.out HKL.out HCO.out)
      rw [show 3 - 1 = 2 from rfl] at HD
      have hcut : S.extract 0 3 = bs (l.take 3) := by have := HEX.out 3; rwa [List.drop_zero] at this
      clear HDC HDE HCO
      generalize cvV l n0 2 = v at *
      have HPT := Lib.hid (fun w => rpointw_any v (by omega) w)
      have HON := Lib.hid (fun h w => ronew_any v h w)
      cases hp : pointW v
      · rw [hp] at HPT HD
        have HD2 : Hid (Lib.decodeL l = (65533, 1)) := by unfold Hid; rw [HD.out, if_neg (by simp)]
        clear HD hp HON
        go_upto_region 6 with (fail)
        refine wp_region_ext (by kernel_rfl) (by kernel_rfl) ?_
        repeat (go_big_quiet_step ((go_at_call 65; exact Calls.ext_same (HPT.out _))))
        refine wpQuiet_nil ?_
        intro _ hw'
        obtain ⟨X9, hw''⟩ := hw'
        subst hw''
        have HX9 := Lib.hid X9.2
        go_wp2_with fail
        exact bodyPost_ret (v := .tuple #[.int .i64 65533, .int .i64 1]) (by simp [results, Tryz.f67, go_sem]) rfl (NxtP.of HD2.out HX9.out)
      · have hvm : v ≤ 1114111 := by rw [pointW_dec] at hp; have := of_decide_eq_true hp; omega
        have HO2 := Lib.hid (HON.out hvm)
        by_cases he : oneW v = l.take 3
        · have HD2 : Hid (Lib.decodeL l = (v, 3)) := by unfold Hid; rw [HD.out, if_pos ⟨hp, he⟩]
          rw [hp] at HPT
          rw [← he] at hcut
          generalize bs (oneW v) = X at *
          have hxx : (X.toList != X.toList) = false := by simp
          clear HD hp HON he
          go_upto_region 6 with (fail)
          refine wp_region_ext (by kernel_rfl) (by kernel_rfl) ?_
          repeat (go_big_quiet_step (first | (go_at_call 65; exact Calls.ext_same (HPT.out _)) | (go_at_call 66; exact Calls.ext (HO2.out _))))
          refine wpQuiet_nil ?_
          intro _ hw'
          obtain ⟨X9, hw''⟩ := hw'
          subst hw''
          have HX9 := Lib.hid X9.2
          go_wp2_with fail
          exact bodyPost_ret (v := .tuple #[.int .i64 (v : Int), .int .i64 3]) (by simp [results, Tryz.f67, go_sem]) rfl (NxtP.of HD2.out HX9.out)
        · have HD2 : Hid (Lib.decodeL l = (65533, 1)) := by unfold Hid; rw [HD.out, if_neg (fun h => he h.2)]
          rw [hp] at HPT
          have hxe : ((bs (oneW v)).toList == (bs (l.take 3)).toList) = false := by rw [bs_toList, bs_toList, beq_eq_false_iff_ne]; exact he
          have hxx : ((bs (oneW v)).toList != (bs (l.take 3)).toList) = true := by unfold bne; rw [hxe]; rfl
          generalize bs (oneW v) = X at *
          generalize bs (l.take 3) = Y at *
          clear HD hp HON he
          go_upto_region 6 with (fail)
          refine wp_region_ext (by kernel_rfl) (by kernel_rfl) ?_
          repeat (go_big_quiet_step (first | (go_at_call 65; exact Calls.ext_same (HPT.out _)) | (go_at_call 66; exact Calls.ext (HO2.out _))))
          refine wpQuiet_nil ?_
          intro _ hw'
          obtain ⟨X9, hw''⟩ := hw'
          subst hw''
          have HX9 := Lib.hid X9.2
          go_wp2_with fail
          exact bodyPost_ret (v := .tuple #[.int .i64 65533, .int .i64 1]) (by simp [results, Tryz.f67, go_sem]) rfl (NxtP.of HD2.out HX9.out)
set_option maxRecDepth 20000 in
set_option maxHeartbeats 8000000 in
theorem rnext_4 (l : List UInt8) (hne : l ≠ []) (hl : l.length ≤ 100000) (hb1 : 240 ≤ (l.getD 0 0).toNat) (hb2 : (l.getD 0 0).toNat < 248) (w : World) : Calls Tryz.prog 67 #[.string (bs l)] w (NxtP l w) := by
  have hsz : (bs l).size = l.length := bs_size l
  have HSZ := Lib.hid hsz
  have h1 := len_pos hne
  have hle : (bs l).size ≤ 100000 := by omega
  have hps : 0 < (bs l).size := by omega
  have HAT : Hid (∀ (i : Nat) (g : i < (bs l).size), (bs l)[i]'g = l.getD i 0) := fun i g => ba_at l g
  have hat0 : ∀ g : 0 < (bs l).size, (bs l)[0]'g = l.getD 0 0 := fun g => HAT.out 0 g
  have hb := (l.getD 0 0).toNat_lt
  have HEX := Lib.hid (fun n => bs_extract l 0 n)
  have hlb : LeadB (l.getD 0 0).toNat 4 ((l.getD 0 0).toNat - 240) := by unfold LeadB; omega
  have g1 : ¬ ((l.getD 0 0).toNat : Int) < 128 := by omega
  have g2 : 192 ≤ ((l.getD 0 0).toNat : Int) := by omega
  have g3 : ¬ ((l.getD 0 0).toNat : Int) < 224 := by omega
  have g4 : 224 ≤ ((l.getD 0 0).toNat : Int) := by omega
  have g5 : ¬ ((l.getD 0 0).toNat : Int) < 240 := by omega
  have g6 : 240 ≤ ((l.getD 0 0).toNat : Int) := by omega
  have g7 : ((l.getD 0 0).toNat : Int) < 248 := by omega
  have hn0z := lead_n0 hlb
  have HN0 : Hid ((((l.getD 0 0).toNat - 240 : Nat) : Int) = ((l.getD 0 0).toNat : Int) - 240) := by unfold Hid; omega
  have HDS := Lib.hid (fun h => dec_short hlb h)
  have HDC := Lib.hid (fun i h0 h1 h => dec_cont (i := i) hlb h0 h1 h)
  have HDE := Lib.hid (fun h1 h2 => dec_end hne hlb h1 h2)
  clear hlb
  generalize (l.getD 0 0).toNat - 240 = n0 at *
  generalize l.getD 0 0 = b at *
  by_cases hsh : l.length < 4
  · have HD := Lib.hid (HDS.out hsh)
    have g9 : ((bs l).size : Int) < 4 := by omega
    generalize bs l = S at *
    clear hsz hb1 hb2 hsh HDS HDC HDE
    go_enter Tryz.func67, Tryz.ntmps67
    go_wp2_with fail
    exact bodyPost_ret (v := .tuple #[.int .i64 65533, .int .i64 1]) (by simp [results, Tryz.f67, go_sem]) rfl (NxtP.of HD.out (Below.refl _ _))
  have g9 : ¬ ((bs l).size : Int) < 4 := by omega
  have HKL : Hid (4 ≤ l.length) := by unfold Hid; omega
  have hks : 4 ≤ (bs l).size := by omega
  generalize bs l = S at *
  clear hsz hsh HDS
  go_enter Tryz.func67, Tryz.ntmps67
  go_wp2_with fail
  go_loopw [4, 6] (fun n i wr => ∃ j : Nat, j + 1 ≤ 4 ∧ i = .int .i64 ((j : Int) + 1) ∧ n = .int .i64 (cvV l n0 j : Int) ∧ (∀ q, 1 ≤ q → q < j + 1 → ContB l q) ∧ wr = w) (fun _ i _ => 4 - (intOf i).toNat)
  case atStart => exact ⟨0, by omega, rfl, by rw [show cvV l n0 0 = n0 from rfl, HN0.out], fun q h1 h2 => by omega, rfl⟩
  case round =>
    obtain ⟨j, hj, rfl, rfl, hco, rfl⟩ := hrel
    have HCO := Lib.hid hco
    have hcv := cvV_lt (l := l) hn0z j (by omega)
    have hcp : cvV l n0 j < 67108864 := by
      have : (64 : Nat) ^ j ≤ 64 ^ 3 := Nat.pow_le_pow_right (by omega) (by omega)
      omega
    clear hco hcv
    by_cases hlt : j + 1 < 4
    · have hat : ∀ g : j + 1 < S.size, S[j + 1]'g = l.getD (j + 1) 0 := fun g => HAT.out (j + 1) g
      have hjs : j + 1 < S.size := by omega
      have gj : (j : Int) + 1 < 4 := by omega
      have hz := (l.getD (j + 1) 0).toNat_lt
      by_cases hc : ContB l (j + 1)
      · have HCN : Hid (∀ q, 1 ≤ q → q < j + 1 + 1 → ContB l q) := fun q h1 h2 => by
          rcases Nat.lt_or_ge q (j + 1) with h | h
          · exact HCO.out q h1 h
          · rw [show q = j + 1 by omega]; exact hc
        have HCV : Hid ((cvV l n0 (j + 1) : Int) = 64 * (cvV l n0 j : Int) + ((l.getD (j + 1) 0).toNat : Int) - 128) := by
          have : cvV l n0 (j + 1) = 64 * cvV l n0 j + ((l.getD (j + 1) 0).toNat - 128) := rfl
          unfold Hid; rw [this]; have := hc.1; omega
        obtain ⟨c1, c2⟩ := hc
        have k1 : ¬ ((l.getD (j + 1) 0).toNat : Int) < 128 := by omega
        have k2 : ¬ 191 < ((l.getD (j + 1) 0).toNat : Int) := by omega
        clear HDC HDE
        generalize cvV l n0 j = v at *
        generalize l.getD (j + 1) 0 = c at *
        go_wp2_with fail
        go_roundw
        case rel => exact ⟨j + 1, by omega, by go_num, by rw [HCV.out], HCN.out, trivial⟩
        case measure => simp [intOf]; omega
      · have HD := Lib.hid (HDC.out _ (by omega) hlt hc)
        by_cases hc1 : (l.getD (j + 1) 0).toNat < 128
        · have k1 : ((l.getD (j + 1) 0).toNat : Int) < 128 := by omega
          clear HDC HDE
          generalize cvV l n0 j = v at *
          clear hc hc1
          generalize l.getD (j + 1) 0 = c at *
          go_wp2_with fail
          exact bodyPost_ret (v := .tuple #[.int .i64 65533, .int .i64 1]) (by simp [results, Tryz.f67, go_sem]) rfl (NxtP.of HD.out (Below.refl _ _))
        · have k1 : ¬ ((l.getD (j + 1) 0).toNat : Int) < 128 := by omega
          have k2 : 191 < ((l.getD (j + 1) 0).toNat : Int) := by unfold ContB at hc; omega
          clear HDC HDE
          generalize cvV l n0 j = v at *
          clear hc hc1
          generalize l.getD (j + 1) 0 = c at *
          go_wp2_with fail
          exact bodyPost_ret (v := .tuple #[.int .i64 65533, .int .i64 1]) (by simp [results, Tryz.f67, go_sem]) rfl (NxtP.of HD.out (Below.refl _ _))
    · obtain rfl : j = 3 := by omega
      have HD := Lib.hid (HDE.out HKL.out HCO.out)
      rw [show 4 - 1 = 3 from rfl] at HD
      have hcut : S.extract 0 4 = bs (l.take 4) := by have := HEX.out 4; rwa [List.drop_zero] at this
      clear HDC HDE HCO
      generalize cvV l n0 3 = v at *
      have HPT := Lib.hid (fun w => rpointw_any v (by omega) w)
      have HON := Lib.hid (fun h w => ronew_any v h w)
      cases hp : pointW v
      · rw [hp] at HPT HD
        have HD2 : Hid (Lib.decodeL l = (65533, 1)) := by unfold Hid; rw [HD.out, if_neg (by simp)]
        clear HD hp HON
        go_upto_region 6 with (fail)
        refine wp_region_ext (by kernel_rfl) (by kernel_rfl) ?_
        repeat (go_big_quiet_step ((go_at_call 65; exact Calls.ext_same (HPT.out _))))
        refine wpQuiet_nil ?_
        intro _ hw'
        obtain ⟨X9, hw''⟩ := hw'
        subst hw''
        have HX9 := Lib.hid X9.2
        go_wp2_with fail
        exact bodyPost_ret (v := .tuple #[.int .i64 65533, .int .i64 1]) (by simp [results, Tryz.f67, go_sem]) rfl (NxtP.of HD2.out HX9.out)
      · have hvm : v ≤ 1114111 := by rw [pointW_dec] at hp; have := of_decide_eq_true hp; omega
        have HO2 := Lib.hid (HON.out hvm)
        by_cases he : oneW v = l.take 4
        · have HD2 : Hid (Lib.decodeL l = (v, 4)) := by unfold Hid; rw [HD.out, if_pos ⟨hp, he⟩]
          rw [hp] at HPT
          rw [← he] at hcut
          generalize bs (oneW v) = X at *
          have hxx : (X.toList != X.toList) = false := by simp
          clear HD hp HON he
          go_upto_region 6 with (fail)
          refine wp_region_ext (by kernel_rfl) (by kernel_rfl) ?_
          repeat (go_big_quiet_step (first | (go_at_call 65; exact Calls.ext_same (HPT.out _)) | (go_at_call 66; exact Calls.ext (HO2.out _))))
          refine wpQuiet_nil ?_
          intro _ hw'
          obtain ⟨X9, hw''⟩ := hw'
          subst hw''
          have HX9 := Lib.hid X9.2
          go_wp2_with fail
          exact bodyPost_ret (v := .tuple #[.int .i64 (v : Int), .int .i64 4]) (by simp [results, Tryz.f67, go_sem]) rfl (NxtP.of HD2.out HX9.out)
        · have HD2 : Hid (Lib.decodeL l = (65533, 1)) := by unfold Hid; rw [HD.out, if_neg (fun h => he h.2)]
          rw [hp] at HPT
          have hxe : ((bs (oneW v)).toList == (bs (l.take 4)).toList) = false := by rw [bs_toList, bs_toList, beq_eq_false_iff_ne]; exact he
          have hxx : ((bs (oneW v)).toList != (bs (l.take 4)).toList) = true := by unfold bne; rw [hxe]; rfl
          generalize bs (oneW v) = X at *
          generalize bs (l.take 4) = Y at *
          clear HD hp HON he
          go_upto_region 6 with (fail)
          refine wp_region_ext (by kernel_rfl) (by kernel_rfl) ?_
          repeat (go_big_quiet_step (first | (go_at_call 65; exact Calls.ext_same (HPT.out _)) | (go_at_call 66; exact Calls.ext (HO2.out _))))
          refine wpQuiet_nil ?_
          intro _ hw'
          obtain ⟨X9, hw''⟩ := hw'
          subst hw''
          have HX9 := Lib.hid X9.2
          go_wp2_with fail
          exact bodyPost_ret (v := .tuple #[.int .i64 65533, .int .i64 1]) (by simp [results, Tryz.f67, go_sem]) rfl (NxtP.of HD2.out HX9.out)
theorem rnext_any (l : List UInt8) (hne : l ≠ []) (hl : l.length ≤ 100000) (w : World) : Calls Tryz.prog 67 #[.string (bs l)] w (NxtP l w) := by
  by_cases h1 : (l.getD 0 0).toNat < 192 ∨ 248 ≤ (l.getD 0 0).toNat
  · exact rnext_small l hne hl h1 w
  · by_cases h2 : (l.getD 0 0).toNat < 224
    · exact rnext_2 l hne hl (by omega) h2 w
    · by_cases h3 : (l.getD 0 0).toNat < 240
      · exact rnext_3 l hne hl (by omega) h3 w
      · exact rnext_4 l hne hl (by omega) (by omega) w
end Go.Proofs.YtpionddponmdmaaGreatDoor
