/- Walks: Number of both. -/
import Derived.Test.YtpionddponmdmaaGreatDoorQ43
import Derived.Test.YtpionddponmdmaaGreatDoorQ44
import Derived.Deep.QuietTactic
import Derived.BigQuiet
namespace Go.Proofs.YtpionddponmdmaaGreatDoor
open Go.RowKit
attribute [local go_sem] Ext.cell Ext.frozen
attribute [local go_sem ↓] Go.wp_at_zero Go.wp_at_succ
def digL : List UInt8 := [48, 49, 50, 51, 52, 53, 54, 55, 56, 57]
def digLen (l : List UInt8) : Nat := (l.takeWhile (digL.contains ·)).length
theorem digLen_le (l : List UInt8) : digLen l ≤ l.length := (List.takeWhile_prefix _).length_le
theorem rundig_any (l : List UInt8) (hl : l.length ≤ 100000) (w : World) : Calls Tryz.prog 21 #[.string (bs l), .string (bs digL)] w fun e w' => e = .returned (.int .i64 (digLen l : Int)) ∧ Below w.heap.size w w' := by
  have HTR : Hid (∀ w, Calls Tryz.prog 36 #[.string (bs l), .string (bs digL)] w fun e w' => ∃ T : ByteArray, e = .returned (.string T) ∧ (T.size : Int) = (l.length : Int) - (digLen l : Int) ∧ Below w.heap.size w w') := fun w => by
    refine (Any.strings_TrimLeft_laid Tryz.lays161 (by kernel_rfl) (bs l) (bs digL) w (by decide) (fun j b h => ?_)).mono ?_
    · have hm : b ∈ digL := List.mem_of_getElem? h
      have k : ∀ b ∈ digL, b.toNat < 128 := by decide
      exact k b hm
    · rintro e w' ⟨rfl, hb⟩
      refine ⟨_, rfl, ?_, hb⟩
      rw [bs_data, bs_data]
      show ((Lib.trimLeftS l digL).toArray.size : Int) = _
      rw [List.size_toArray]
      unfold Lib.trimLeftS
      rw [drop_len]
      have := digLen_le l
      unfold digLen at this ⊢
      omega
  have hsz : (bs l).size = l.length := bs_size l
  have hle : (bs l).size ≤ 100000 := by omega
  have hwl := digLen_le l
  have HS := Lib.hid hsz
  generalize hW : digLen l = W at *
  generalize bs l = S at *
  generalize bs digL = I at *
  clear hsz hW
  go_enter Tryz.func21, Tryz.ntmps21
  go_wp2_with fail
  refine (HTR.out _).mono ?_
  rintro e w2 ⟨T, rfl, hT, hb⟩
  have HB := Lib.hid hb
  have HT : Hid ((S.size : Int) - (T.size : Int) = (W : Int)) := by unfold Hid; rw [hT, HS.out]; omega
  have hts : T.size ≤ 100000 := by omega
  clear hT hb
  go_wp2_with fail
  go_ret
  exact ⟨by rw [← HT.out]; rfl, HB.out⟩
theorem dig_mem (c : UInt8) : c ∈ digL ↔ Lib.digitVal c ≠ none := by
  have h : ∀ n : Fin 256, (UInt8.ofNat n.val ∈ digL ↔ Lib.digitVal (UInt8.ofNat n.val) ≠ none) := by decide +kernel
  have := h ⟨c.toNat, c.toNat_lt⟩
  simpa using this
theorem dig_all : ∀ (l : List UInt8) (acc : Nat), digLen l = l.length ↔ Lib.decFrom acc l ≠ none
  | [], acc => ⟨fun _ h => (by cases h), fun _ => rfl⟩
  | c :: l, acc => by
    have hm := dig_mem c
    unfold digLen Lib.decFrom
    rw [List.takeWhile_cons]
    by_cases h : c ∈ digL
    · rw [if_pos (by simpa using h)]
      obtain ⟨d, hd⟩ := Option.ne_none_iff_exists'.1 (hm.1 h)
      rw [hd]
      have ih := dig_all l (acc * 10 + d)
      unfold digLen at ih
      rw [← ih, List.length_cons, List.length_cons]
      omega
    · rw [if_neg (by simpa using h)]
      have hd : Lib.digitVal c = none := Classical.byContradiction fun e => h (hm.2 e)
      rw [hd]
      exact ⟨fun e => by simp at e, fun e => absurd rfl e⟩
/-- the number that a word stands for -/
def numOk (l : List UInt8) : Bool := decide (1 ≤ l.length) && decide (l.length ≤ 6) && decide (Lib.decFrom 0 l ≠ none) && !(decide (1 < l.length) && decide (l.getD 0 0 = 48))
def numW (l : List UInt8) : Nat × Bool := if numOk l then ((Lib.decFrom 0 l).getD 0, true) else (0, false)
def numE (l : List UInt8) : Ending := .returned (.tuple #[.int .i64 ((numW l).1 : Int), .bool (numW l).2])
theorem numW_no {l : List UInt8} (h : numOk l = false) : numW l = (0, false) := by unfold numW; rw [h]; rfl
theorem numW_yes {l : List UInt8} {n : Nat} (h1 : 1 ≤ l.length) (h6 : l.length ≤ 6) (hd : Lib.decFrom 0 l = some n) (hz : ¬ (1 < l.length ∧ l.getD 0 0 = 48)) : numW l = (n, true) := by
  unfold numW numOk
  rw [hd, decide_eq_true h1, decide_eq_true h6]
  rw [show (decide (1 < l.length) && decide (l.getD 0 0 = 48)) = false by rw [← Bool.decide_and]; exact decide_eq_false hz]
  rfl
theorem decFrom_lt : ∀ (l : List UInt8) (acc n : Nat), Lib.decFrom acc l = some n → n < (acc + 1) * 10 ^ l.length
  | [], acc, n, h => by
    injection h with h
    subst h
    simp
  | c :: l, acc, n, h => by
    unfold Lib.decFrom at h
    split at h
    · rename_i d hd
      have hd9 : d ≤ 9 := by
        unfold Lib.digitVal at hd
        split at hd
        · injection hd with hd; omega
        · cases hd
      have ih := decFrom_lt l _ n h
      rw [List.length_cons, Nat.pow_succ]
      have h2 : (acc * 10 + d + 1) * 10 ^ l.length ≤ ((acc + 1) * 10) * 10 ^ l.length := Nat.mul_le_mul_right _ (by omega)
      have h3 : ((acc + 1) * 10) * 10 ^ l.length = (acc + 1) * (10 ^ l.length * 10) := by rw [Nat.mul_assoc, Nat.mul_comm 10]
      omega
    · cases h
end Go.Proofs.YtpionddponmdmaaGreatDoor
/- Walks: Number of both. -/
namespace Go.Proofs.YtpionddponmdmaaGreatDoor
open Go.RowKit
attribute [local go_sem] Ext.cell Ext.frozen
attribute [local go_sem ↓] Go.wp_at_zero Go.wp_at_succ
theorem decFrom_none : ∀ (l : List UInt8) (acc k : Nat) (b : UInt8), l[k]? = some b → Lib.digitVal b = none → Lib.decFrom acc l = none
  | [], acc, k, b, h, _ => by simp at h
  | c :: l, acc, 0, b, h, hb => by
    simp at h
    subst h
    unfold Lib.decFrom
    rw [hb]
  | c :: l, acc, k + 1, b, h, hb => by
    unfold Lib.decFrom
    split
    · exact decFrom_none l _ k b (by simpa using h) hb
    · rfl
theorem atoi_dig {l : List UInt8} {n : Nat} (h1 : 1 ≤ l.length) (hd : Lib.decFrom 0 l = some n) : Lib.atoi l = some (n : Int) := by
  match l, h1 with
  | c :: r, _ =>
    have hc : Lib.digitVal c ≠ none := fun e => by rw [decFrom_none (c :: r) 0 0 c rfl e] at hd; cases hd
    have hc2 := (dig_mem c).2 hc
    have k : ∀ c ∈ digL, (c == 45) = false ∧ (c == 43) = false := by decide
    obtain ⟨k1, k2⟩ := k c hc2
    show (if (c == 45) = true then (Lib.decNat r).map fun (m : Nat) => -(m : Int) else if (c == 43) = true then (Lib.decNat r).map fun (m : Nat) => (m : Int) else (Lib.decNat (c :: r)).map fun (m : Nat) => (m : Int)) = some (n : Int)
    rw [k1, k2]
    unfold Lib.decNat
    rw [hd]
    rfl
set_option maxRecDepth 20000 in
set_option maxHeartbeats 4000000 in
theorem number_any (l : List UInt8) (hl : l.length ≤ 100000) (w : World) : Calls Tryz.prog 9 #[.string (bs l)] w fun e w' => e = numE l ∧ Below w.heap.size w w' := by
  have HRN := Lib.hid (fun w => rundig_any l hl w)
  have hsz : (bs l).size = l.length := bs_size l
  have HB : Hid (Below w.heap.size w w) := Below.refl _ _
  by_cases h0 : 1 ≤ l.length
  rotate_left
  · have HR : Hid (numW l = (0, false)) := numW_no (by unfold numOk; rw [decide_eq_false h0]; rfl)
    have g0 : ((bs l).size : Int) < 1 := by omega
    generalize bs l = S at *
    clear hsz h0 HRN
    go_enter Tryz.func9, Tryz.ntmps9
    go_wp2_with fail
    exact bodyPost_ret (v := .tuple #[.int .i64 0, .bool false]) (by simp [results, Tryz.f9, go_sem]) rfl ⟨by unfold numE; rw [HR.out]; rfl, HB.out⟩
  have g0 : ¬ ((bs l).size : Int) < 1 := by omega
  by_cases h6 : l.length ≤ 6
  rotate_left
  · have HR : Hid (numW l = (0, false)) := numW_no (by unfold numOk; rw [decide_eq_false h6, Bool.and_false]; rfl)
    have g6 : 6 < ((bs l).size : Int) := by omega
    generalize bs l = S at *
    clear hsz h0 h6 HRN
    go_enter Tryz.func9, Tryz.ntmps9
    go_wp2_with fail
    exact bodyPost_ret (v := .tuple #[.int .i64 0, .bool false]) (by simp [results, Tryz.f9, go_sem]) rfl ⟨by unfold numE; rw [HR.out]; rfl, HB.out⟩
  have g6 : ¬ 6 < ((bs l).size : Int) := by omega
  by_cases hd : Lib.decFrom 0 l = none
  · have HR : Hid (numW l = (0, false)) := numW_no (by unfold numOk; rw [decide_eq_false (p := Lib.decFrom 0 l ≠ none) (fun h => h hd), Bool.and_false]; rfl)
    have hn : digLen l ≠ l.length := fun e => (dig_all l 0).1 e hd
    have m5 : (((digLen l : Nat) : Int) == ((bs l).size : Int)) = false := by rw [hsz, beq_eq_false_iff_ne]; omega
    have m6 : (((digLen l : Nat) : Int) != ((bs l).size : Int)) = true := by unfold bne; rw [m5]; rfl
    generalize digLen l = D at *
    generalize bs l = S at *
    clear hsz h0 h6 hd hn HB
    go_enter Tryz.func9, Tryz.ntmps9
    go_wp2_with fail
    refine (HRN.out _).mono ?_
    rintro e w2 ⟨rfl, hb⟩
    have HB := Lib.hid hb
    clear hb
    go_wp2_with fail
    exact bodyPost_ret (v := .tuple #[.int .i64 0, .bool false]) (by simp [results, Tryz.f9, go_sem]) rfl ⟨by unfold numE; rw [HR.out]; rfl, HB.out⟩
  obtain ⟨n, hn⟩ := Option.ne_none_iff_exists'.1 hd
  have hdl : digLen l = l.length := (dig_all l 0).2 hd
  have m5 : (((digLen l : Nat) : Int) == ((bs l).size : Int)) = true := by rw [hsz, hdl]; simp
  have m6 : (((digLen l : Nat) : Int) != ((bs l).size : Int)) = false := by unfold bne; rw [m5]; rfl
  have hps : 0 < (bs l).size := by omega
  have hat : ∀ g : 0 < (bs l).size, (bs l)[0]'g = l.getD 0 0 := fun g => ba_at l g
  have hlt := decFrom_lt l 0 n hn
  have hnb : n < 1000000 := by
    have : (10 : Nat) ^ l.length ≤ 10 ^ 6 := Nat.pow_le_pow_right (by omega) h6
    omega
  have HAT : Hid (∀ w, Calls Tryz.prog 22 #[.string (bs l)] w fun e w' => e = .returned (.tuple #[.int .i64 (n : Int), .nilIface]) ∧ Below w.heap.size w w') := fun w => by
    refine (Tryz.strconv_Atoi (bs l) n (by omega) (by rw [bs_data]; exact atoi_dig h0 hn) w).mono ?_
    rintro e w' ⟨e0, t, hw⟩
    exact ⟨e0, by rw [hw]; exact bytes_below _ _ _⟩
  by_cases h1 : 1 < l.length
  · have g1 : 1 < ((bs l).size : Int) := by omega
    by_cases h48 : l.getD 0 0 = 48
    · have HR : Hid (numW l = (0, false)) := numW_no (by unfold numOk; rw [decide_eq_true h1, decide_eq_true h48]; simp)
      rw [h48] at hat
      generalize digLen l = D at *
      generalize bs l = S at *
      clear hsz h0 h6 hd hn hdl hlt HAT h1 h48 HB
      go_enter Tryz.func9, Tryz.ntmps9
      go_wp2_with fail
      refine (HRN.out _).mono ?_
      rintro e w2 ⟨rfl, hb⟩
      have HB := Lib.hid hb
      clear hb
      go_wp2_with fail
      exact bodyPost_ret (v := .tuple #[.int .i64 0, .bool false]) (by simp [results, Tryz.f9, go_sem]) rfl ⟨by unfold numE; rw [HR.out]; rfl, HB.out⟩
    · have HR : Hid (numW l = (n, true)) := numW_yes h0 h6 hn (fun h => h48 h.2)
      have g48 : (((l.getD 0 0).toNat : Int) == 48) = false := neU h48
      generalize digLen l = D at *
      generalize l.getD 0 0 = ch at *
      generalize bs l = S at *
      clear hsz h0 h6 hd hn hdl hlt h1 h48 HB
      go_enter Tryz.func9, Tryz.ntmps9
      go_wp2_with fail
      refine (HRN.out _).mono ?_
      rintro e w2 ⟨rfl, hb⟩
      have HB := Lib.hid hb
      clear hb
      go_wp2_with fail
      refine (HAT.out _).mono ?_
      rintro e w3 ⟨rfl, hb3⟩
      have HB3 : Hid (Below w.heap.size w w3) := HB.out.trans (hb3.mono HB.out.size)
      clear hb3
      go_wp2_with fail
      go_quiet (fail)
      all_goals
        go_wp2_with fail
        exact bodyPost_ret (v := .tuple #[.int .i64 (n : Int), .bool true]) (by simp [results, Tryz.f9, go_sem]) rfl ⟨by unfold numE; rw [HR.out], HB3.out.trans ((below_drewN _ _).mono HB3.out.size)⟩
  · have g1 : ¬ 1 < ((bs l).size : Int) := by omega
    have HR : Hid (numW l = (n, true)) := numW_yes h0 h6 hn (fun h => h1 h.1)
    generalize digLen l = D at *
    generalize l.getD 0 0 = ch at *
    generalize bs l = S at *
    clear hsz h0 h6 hd hn hdl hlt h1 HB
    go_enter Tryz.func9, Tryz.ntmps9
    go_wp2_with fail
    refine (HRN.out _).mono ?_
    rintro e w2 ⟨rfl, hb⟩
    have HB := Lib.hid hb
    clear hb
    go_wp2_with fail
    refine (HAT.out _).mono ?_
    rintro e w3 ⟨rfl, hb3⟩
    have HB3 : Hid (Below w.heap.size w w3) := HB.out.trans (hb3.mono HB.out.size)
    clear hb3
    go_wp2_with fail
    go_quiet (fail)
    all_goals
      go_wp2_with fail
      exact bodyPost_ret (v := .tuple #[.int .i64 (n : Int), .bool true]) (by simp [results, Tryz.f9, go_sem]) rfl ⟨by unfold numE; rw [HR.out], HB3.out.trans ((below_drewN _ _).mono HB3.out.size)⟩
set_option maxRecDepth 20000 in
set_option maxHeartbeats 4000000 in
theorem rnumber_any11 (l : List UInt8) (hl : l.length ≤ 100000) (w : World) : Calls Tryz.prog 10 #[.string (bs l)] w fun e w' => e = numE l ∧ Below w.heap.size w w' := by
  have hsz : (bs l).size = l.length := bs_size l
  have HSZ := Lib.hid hsz
  have HB : Hid (Below w.heap.size w w) := Below.refl _ _
  by_cases h0 : 1 ≤ l.length
  rotate_left
  · have HR : Hid (numW l = (0, false)) := numW_no (by unfold numOk; rw [decide_eq_false h0]; rfl)
    have g0 : ((bs l).size : Int) < 1 := by omega
    generalize bs l = S at *
    clear hsz h0 HSZ
    go_enter Tryz.func10, Tryz.ntmps10
    go_wp2_with fail
    exact bodyPost_ret (v := .tuple #[.int .i64 0, .bool false]) (by simp [results, Tryz.f10, go_sem]) rfl ⟨by unfold numE; rw [HR.out]; rfl, HB.out⟩
  have g0 : ¬ ((bs l).size : Int) < 1 := by omega
  by_cases h6 : l.length ≤ 6
  rotate_left
  · have HR : Hid (numW l = (0, false)) := numW_no (by unfold numOk; rw [decide_eq_false h6, Bool.and_false]; rfl)
    have g6 : 6 < ((bs l).size : Int) := by omega
    generalize bs l = S at *
    clear hsz h0 h6 HSZ
    go_enter Tryz.func10, Tryz.ntmps10
    go_wp2_with fail
    exact bodyPost_ret (v := .tuple #[.int .i64 0, .bool false]) (by simp [results, Tryz.f10, go_sem]) rfl ⟨by unfold numE; rw [HR.out]; rfl, HB.out⟩
  have g6 : ¬ 6 < ((bs l).size : Int) := by omega
  have hps : 0 < (bs l).size := by omega
  have HAT : Hid (∀ (i : Nat) (g : i < (bs l).size), (bs l)[i]'g = l.getD i 0) := fun i g => ba_at l g
  have hat : ∀ g : 0 < (bs l).size, (bs l)[0]'g = l.getD 0 0 := fun g => ba_at l g
  by_cases hz : 1 < l.length ∧ l.getD 0 0 = 48
  · have HR : Hid (numW l = (0, false)) := numW_no (by unfold numOk; rw [decide_eq_true hz.1, decide_eq_true hz.2]; simp)
    have g1 : 1 < ((bs l).size : Int) := by omega
    rw [hz.2] at hat
    generalize bs l = S at *
    clear hsz h0 h6 HSZ hz HAT
    go_enter Tryz.func10, Tryz.ntmps10
    go_wp2_with fail
    exact bodyPost_ret (v := .tuple #[.int .i64 0, .bool false]) (by simp [results, Tryz.f10, go_sem]) rfl ⟨by unfold numE; rw [HR.out]; rfl, HB.out⟩
  have HYES := Lib.hid (fun n hn => @numW_yes l n h0 h6 hn hz)
  have HNO : Hid (Lib.decFrom 0 l = none → numW l = (0, false)) := fun hd => numW_no (by unfold numOk; rw [decide_eq_false (p := Lib.decFrom 0 l ≠ none) (fun h => h hd), Bool.and_false]; rfl)
  have HLT := Lib.hid (fun k n => decFrom_lt (l.take k) 0 n)
  have HL6 := Lib.hid h6
  by_cases h1 : 1 < l.length
  · have g1 : 1 < ((bs l).size : Int) := by omega
    have g48 : (((l.getD 0 0).toNat : Int) == 48) = false := neU (fun e => hz ⟨h1, e⟩)
    generalize l.getD 0 0 = ch0 at *
    generalize bs l = S at *
    clear hsz h0 h6 hz h1
    go_enter Tryz.func10, Tryz.ntmps10
    go_wp2_with fail
    go_loopw [4, 5] (fun v i wr => ∃ (k m : Nat), i = .int .i64 (k : Int) ∧ k ≤ l.length ∧ v = .int .i64 (m : Int) ∧ Lib.decFrom 0 (l.take k) = some m ∧ wr = w) (fun _ i _ => l.length - (intOf i).toNat)
    case atStart => exact ⟨0, 0, rfl, Nat.zero_le _, rfl, rfl, rfl⟩
    case round =>
      obtain ⟨k, m, rfl, hk, rfl, hd, rfl⟩ := hrel
      have HD := Lib.hid hd
      have hmb : m < 1000000 := by
        have h1 := HLT.out k m hd
        have h2 : (10 : Nat) ^ (l.take k).length ≤ 10 ^ 6 := Nat.pow_le_pow_right (by omega) (by rw [List.length_take]; have := HL6.out; omega)
        omega
      clear hd
      by_cases hlt : k < l.length
      · have hps2 : k < S.size := by rw [HSZ.out]; exact hlt
        have hatk : ∀ g : k < S.size, S[k]'g = l.getD k 0 := fun g => HAT.out k g
        have hgk : l[k]? = some (l.getD k 0) := by simp [List.getD, List.getElem?_eq_getElem hlt]
        have hc := (l.getD k 0).toNat_lt
        by_cases hdg : 48 ≤ (l.getD k 0).toNat ∧ (l.getD k 0).toNat ≤ 57
        · have HN : Hid (Lib.decFrom 0 (l.take (k + 1)) = some (m * 10 + ((l.getD k 0).toNat - 48))) := Lib.decFrom_take l k 0 m _ _ HD.out hgk (by unfold Lib.digitVal; rw [if_pos hdg])
          obtain ⟨hd1, hd2⟩ := hdg
          have k1 : ¬ ((l.getD k 0).toNat : Int) < 48 := by omega
          have k2 : ¬ 57 < ((l.getD k 0).toNat : Int) := by omega
          have k3 : (((l.getD k 0).toNat - 48 : Nat) : Int) = ((l.getD k 0).toNat : Int) - 48 := by omega
          have HK3 := Lib.hid k3
          clear hgk k3
          generalize l.getD k 0 = c at *
          go_wp2_with fail
          go_roundw
          case rel => exact ⟨k + 1, m * 10 + (c.toNat - 48), by go_num, hlt, by rw [Int.natCast_add, HK3.out, Int.natCast_mul]; go_num, HN.out, trivial⟩
          case measure => simp [intOf]; omega
        · have HR : Hid (numW l = (0, false)) := HNO.out (decFrom_none l 0 k _ hgk (by unfold Lib.digitVal; rw [if_neg hdg]))
          by_cases hd1 : (l.getD k 0).toNat < 48
          · have k1 : ((l.getD k 0).toNat : Int) < 48 := by omega
            clear hgk hdg hd1
            generalize l.getD k 0 = c at *
            go_wp2_with fail
            exact bodyPost_ret (v := .tuple #[.int .i64 0, .bool false]) (by simp [results, Tryz.f10, go_sem]) rfl ⟨by unfold numE; rw [HR.out]; rfl, HB.out⟩
          · have k1 : ¬ ((l.getD k 0).toNat : Int) < 48 := by omega
            have k2 : 57 < ((l.getD k 0).toNat : Int) := by omega
            clear hgk hdg hd1
            generalize l.getD k 0 = c at *
            go_wp2_with fail
            exact bodyPost_ret (v := .tuple #[.int .i64 0, .bool false]) (by simp [results, Tryz.f10, go_sem]) rfl ⟨by unfold numE; rw [HR.out]; rfl, HB.out⟩
      · obtain rfl : k = l.length := by omega
        have HR : Hid (numW l = (m, true)) := HYES.out m (by have := HD.out; rwa [List.take_length] at this)
        have hpe : ¬ l.length < S.size := by rw [HSZ.out]; omega
        go_wp2_with fail
        exact bodyPost_ret (v := .tuple #[.int .i64 (m : Int), .bool true]) (by simp [results, Tryz.f10, go_sem]) rfl ⟨by unfold numE; rw [HR.out], HB.out⟩
  · have g1 : ¬ 1 < ((bs l).size : Int) := by omega
    generalize l.getD 0 0 = ch0 at *
    generalize bs l = S at *
    clear hsz h0 h6 hz h1
    go_enter Tryz.func10, Tryz.ntmps10
    go_wp2_with fail
    go_loopw [4, 5] (fun v i wr => ∃ (k m : Nat), i = .int .i64 (k : Int) ∧ k ≤ l.length ∧ v = .int .i64 (m : Int) ∧ Lib.decFrom 0 (l.take k) = some m ∧ wr = w) (fun _ i _ => l.length - (intOf i).toNat)
    case atStart => exact ⟨0, 0, rfl, Nat.zero_le _, rfl, rfl, rfl⟩
    case round =>
      obtain ⟨k, m, rfl, hk, rfl, hd, rfl⟩ := hrel
      have HD := Lib.hid hd
      have hmb : m < 1000000 := by
        have h1 := HLT.out k m hd
        have h2 : (10 : Nat) ^ (l.take k).length ≤ 10 ^ 6 := Nat.pow_le_pow_right (by omega) (by rw [List.length_take]; have := HL6.out; omega)
        omega
      clear hd
      by_cases hlt : k < l.length
      · have hps2 : k < S.size := by rw [HSZ.out]; exact hlt
        have hatk : ∀ g : k < S.size, S[k]'g = l.getD k 0 := fun g => HAT.out k g
        have hgk : l[k]? = some (l.getD k 0) := by simp [List.getD, List.getElem?_eq_getElem hlt]
        have hc := (l.getD k 0).toNat_lt
        by_cases hdg : 48 ≤ (l.getD k 0).toNat ∧ (l.getD k 0).toNat ≤ 57
        · have HN : Hid (Lib.decFrom 0 (l.take (k + 1)) = some (m * 10 + ((l.getD k 0).toNat - 48))) := Lib.decFrom_take l k 0 m _ _ HD.out hgk (by unfold Lib.digitVal; rw [if_pos hdg])
          obtain ⟨hd1, hd2⟩ := hdg
          have k1 : ¬ ((l.getD k 0).toNat : Int) < 48 := by omega
          have k2 : ¬ 57 < ((l.getD k 0).toNat : Int) := by omega
          have k3 : (((l.getD k 0).toNat - 48 : Nat) : Int) = ((l.getD k 0).toNat : Int) - 48 := by omega
          have HK3 := Lib.hid k3
          clear hgk k3
          generalize l.getD k 0 = c at *
          go_wp2_with fail
          go_roundw
          case rel => exact ⟨k + 1, m * 10 + (c.toNat - 48), by go_num, hlt, by rw [Int.natCast_add, HK3.out, Int.natCast_mul]; go_num, HN.out, trivial⟩
          case measure => simp [intOf]; omega
        · have HR : Hid (numW l = (0, false)) := HNO.out (decFrom_none l 0 k _ hgk (by unfold Lib.digitVal; rw [if_neg hdg]))
          by_cases hd1 : (l.getD k 0).toNat < 48
          · have k1 : ((l.getD k 0).toNat : Int) < 48 := by omega
            clear hgk hdg hd1
            generalize l.getD k 0 = c at *
            go_wp2_with fail
            exact bodyPost_ret (v := .tuple #[.int .i64 0, .bool false]) (by simp [results, Tryz.f10, go_sem]) rfl ⟨by unfold numE; rw [HR.out]; rfl, HB.out⟩
          · have k1 : ¬ ((l.getD k 0).toNat : Int) < 48 := by omega
            have k2 : 57 < ((l.getD k 0).toNat : Int) := by omega
            clear hgk hdg hd1
            generalize l.getD k 0 = c at *
            go_wp2_with fail
            exact bodyPost_ret (v := .tuple #[.int .i64 0, .bool false]) (by simp [results, Tryz.f10, go_sem]) rfl ⟨by unfold numE; rw [HR.out]; rfl, HB.out⟩
      · obtain rfl : k = l.length := by omega
        have HR : Hid (numW l = (m, true)) := HYES.out m (by have := HD.out; rwa [List.take_length] at this)
        have hpe : ¬ l.length < S.size := by rw [HSZ.out]; omega
        go_wp2_with fail
        exact bodyPost_ret (v := .tuple #[.int .i64 (m : Int), .bool true]) (by simp [results, Tryz.f10, go_sem]) rfl ⟨by unfold numE; rw [HR.out], HB.out⟩
end Go.Proofs.YtpionddponmdmaaGreatDoor
