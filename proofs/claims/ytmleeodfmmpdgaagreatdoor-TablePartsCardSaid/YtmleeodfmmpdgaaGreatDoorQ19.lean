/- Walks: Number of both. -/
import Derived.Test.YtmleeodfmmpdgaaGreatDoorQ17
import Derived.Test.YtmleeodfmmpdgaaGreatDoorQ18
import Derived.Deep.QuietTactic
import Derived.BigQuiet
import Derived.Test.YtmleeodfmmpdgaaGreatDoorQ15
import Derived.Test.YtmleeodfmmpdgaaGreatDoorQ00
import Derived.Deep.RegionHeld3
namespace Go.Proofs.YtmleeodfmmpdgaaGreatDoor
open Go.RowKit
attribute [local go_sem] Ext.cell Ext.frozen
attribute [local go_sem ↓] Go.wp_at_zero Go.wp_at_succ
def digL : List UInt8 := [48, 49, 50, 51, 52, 53, 54, 55, 56, 57]
def digLen (l : List UInt8) : Nat := (l.takeWhile (digL.contains ·)).length
theorem digLen_le (l : List UInt8) : digLen l ≤ l.length := (List.takeWhile_prefix _).length_le
theorem rundig_any (l : List UInt8) (hl : l.length ≤ 200000) (w : World) : Calls Tryz.prog 168 #[.string (bs l), .string (bs digL)] w fun e w' => e = .returned (.int .i64 (digLen l : Int)) ∧ Below w.heap.size w w' := by
  have HTR : Hid (∀ w, Calls Tryz.prog 209 #[.string (bs l), .string (bs digL)] w fun e w' => ∃ T : ByteArray, e = .returned (.string T) ∧ (T.size : Int) = (l.length : Int) - (digLen l : Int) ∧ Below w.heap.size w w') := fun w => by
    refine (Any.strings_TrimLeft_laid Tryz.lays161 (by kernel_rfl) (bs l) (bs digL) w (by decide) (fun j b h => ?_)).mono ?_
    · have hm : b ∈ digL := List.mem_of_getElem? h
      have k : ∀ b ∈ digL, b.toNat < 128 := by decide
      exact k b hm
    · rintro e w' ⟨rfl, hb⟩
      refine ⟨_, rfl, ?_, hb⟩
      rw [bs_data, bs_data]
      show ((Lib.trimLeftS l digL).toArray.size : Int) = _
      rw [List.size_toArray]
      unfold Lib.trimLeftS
      rw [drop_len]
      have := digLen_le l
      unfold digLen at this ⊢
      omega
  have hsz : (bs l).size = l.length := bs_size l
  have hle : (bs l).size ≤ 200000 := by omega
  have hwl := digLen_le l
  have HS := Lib.hid hsz
  generalize hW : digLen l = W at *
  generalize bs l = S at *
  generalize bs digL = I at *
  clear hsz hW
  go_enter Tryz.func168, Tryz.ntmps168
  go_wp2_with fail
  refine (HTR.out _).mono ?_
  rintro e w2 ⟨T, rfl, hT, hb⟩
  have HB := Lib.hid hb
  have HT : Hid ((S.size : Int) - (T.size : Int) = (W : Int)) := by unfold Hid; rw [hT, HS.out]; omega
  have hts : T.size ≤ 200000 := by omega
  clear hT hb
  go_wp2_with fail
  go_ret
  exact ⟨by rw [← HT.out]; rfl, HB.out⟩
theorem dig_mem (c : UInt8) : c ∈ digL ↔ Lib.digitVal c ≠ none := by
  have h : ∀ n : Fin 256, (UInt8.ofNat n.val ∈ digL ↔ Lib.digitVal (UInt8.ofNat n.val) ≠ none) := by decide +kernel
  have := h ⟨c.toNat, c.toNat_lt⟩
  simpa using this
theorem dig_all : ∀ (l : List UInt8) (acc : Nat), digLen l = l.length ↔ Lib.decFrom acc l ≠ none
  | [], acc => ⟨fun _ h => (by cases h), fun _ => rfl⟩
  | c :: l, acc => by
    have hm := dig_mem c
    unfold digLen Lib.decFrom
    rw [List.takeWhile_cons]
    by_cases h : c ∈ digL
    · rw [if_pos (by simpa using h)]
      obtain ⟨d, hd⟩ := Option.ne_none_iff_exists'.1 (hm.1 h)
      rw [hd]
      have ih := dig_all l (acc * 10 + d)
      unfold digLen at ih
      rw [← ih, List.length_cons, List.length_cons]
      omega
    · rw [if_neg (by simpa using h)]
      have hd : Lib.digitVal c = none := Classical.byContradiction fun e => h (hm.2 e)
      rw [hd]
      exact ⟨fun e => by simp at e, fun e => absurd rfl e⟩
/-- the number that a word stands for -/
def numOk (l : List UInt8) : Bool := decide (1 ≤ l.length) && decide (l.length ≤ 6) && decide (Lib.decFrom 0 l ≠ none) && !(decide (1 < l.length) && decide (l.getD 0 0 = 48))
def numW (l : List UInt8) : Nat × Bool := if numOk l then ((Lib.decFrom 0 l).getD 0, true) else (0, false)
def numE (l : List UInt8) : Ending := .returned (.tuple #[.int .i64 ((numW l).1 : Int), .bool (numW l).2])
theorem numW_no {l : List UInt8} (h : numOk l = false) : numW l = (0, false) := by unfold numW; rw [h]; rfl
theorem numW_yes {l : List UInt8} {n : Nat} (h1 : 1 ≤ l.length) (h6 : l.length ≤ 6) (hd : Lib.decFrom 0 l = some n) (hz : ¬ (1 < l.length ∧ l.getD 0 0 = 48)) : numW l = (n, true) := by
  unfold numW numOk
  rw [hd, decide_eq_true h1, decide_eq_true h6]
  rw [show (decide (1 < l.length) && decide (l.getD 0 0 = 48)) = false by rw [← Bool.decide_and]; exact decide_eq_false hz]
  rfl
theorem decFrom_lt : ∀ (l : List UInt8) (acc n : Nat), Lib.decFrom acc l = some n → n < (acc + 1) * 10 ^ l.length
  | [], acc, n, h => by
    injection h with h
    subst h
    simp
  | c :: l, acc, n, h => by
    unfold Lib.decFrom at h
    split at h
    · rename_i d hd
      have hd9 : d ≤ 9 := by
        unfold Lib.digitVal at hd
        split at hd
        · injection hd with hd; omega
        · cases hd
      have ih := decFrom_lt l _ n h
      rw [List.length_cons, Nat.pow_succ]
      have h2 : (acc * 10 + d + 1) * 10 ^ l.length ≤ ((acc + 1) * 10) * 10 ^ l.length := Nat.mul_le_mul_right _ (by omega)
      have h3 : ((acc + 1) * 10) * 10 ^ l.length = (acc + 1) * (10 ^ l.length * 10) := by rw [Nat.mul_assoc, Nat.mul_comm 10]
      omega
    · cases h
end Go.Proofs.YtmleeodfmmpdgaaGreatDoor
/- Walks: Number of both. -/
namespace Go.Proofs.YtmleeodfmmpdgaaGreatDoor
open Go.RowKit
attribute [local go_sem] Ext.cell Ext.frozen
attribute [local go_sem ↓] Go.wp_at_zero Go.wp_at_succ
theorem decFrom_none : ∀ (l : List UInt8) (acc k : Nat) (b : UInt8), l[k]? = some b → Lib.digitVal b = none → Lib.decFrom acc l = none
  | [], acc, k, b, h, _ => by simp at h
  | c :: l, acc, 0, b, h, hb => by
    simp at h
    subst h
    unfold Lib.decFrom
    rw [hb]
  | c :: l, acc, k + 1, b, h, hb => by
    unfold Lib.decFrom
    split
    · exact decFrom_none l _ k b (by simpa using h) hb
    · rfl
theorem atoi_dig {l : List UInt8} {n : Nat} (h1 : 1 ≤ l.length) (hd : Lib.decFrom 0 l = some n) : Lib.atoi l = some (n : Int) := by
  match l, h1 with
  | c :: r, _ =>
    have hc : Lib.digitVal c ≠ none := fun e => by rw [decFrom_none (c :: r) 0 0 c rfl e] at hd; cases hd
    have hc2 := (dig_mem c).2 hc
    have k : ∀ c ∈ digL, (c == 45) = false ∧ (c == 43) = false := by decide
    obtain ⟨k1, k2⟩ := k c hc2
    show (if (c == 45) = true then (Lib.decNat r).map fun (m : Nat) => -(m : Int) else if (c == 43) = true then (Lib.decNat r).map fun (m : Nat) => (m : Int) else (Lib.decNat (c :: r)).map fun (m : Nat) => (m : Int)) = some (n : Int)
    rw [k1, k2]
    unfold Lib.decNat
    rw [hd]
    rfl
set_option maxRecDepth 20000 in
set_option maxHeartbeats 4000000 in
theorem number_any (l : List UInt8) (hl : l.length ≤ 200000) (w : World) : Calls Tryz.prog 120 #[.string (bs l)] w fun e w' => e = numE l ∧ Below w.heap.size w w' := by
  have HRN := Lib.hid (fun w => rundig_any l hl w)
  have hsz : (bs l).size = l.length := bs_size l
  have HB : Hid (Below w.heap.size w w) := Below.refl _ _
  by_cases h0 : 1 ≤ l.length
  rotate_left
  · have HR : Hid (numW l = (0, false)) := numW_no (by unfold numOk; rw [decide_eq_false h0]; rfl)
    have g0 : ((bs l).size : Int) < 1 := by omega
    generalize bs l = S at *
    clear hsz h0 HRN
    go_enter Tryz.func120, Tryz.ntmps120
    go_wp2_with fail
    exact bodyPost_ret (v := .tuple #[.int .i64 0, .bool false]) (by simp [results, Tryz.f120, go_sem]) rfl ⟨by unfold numE; rw [HR.out]; rfl, HB.out⟩
  have g0 : ¬ ((bs l).size : Int) < 1 := by omega
  by_cases h6 : l.length ≤ 6
  rotate_left
  · have HR : Hid (numW l = (0, false)) := numW_no (by unfold numOk; rw [decide_eq_false h6, Bool.and_false]; rfl)
    have g6 : 6 < ((bs l).size : Int) := by omega
    generalize bs l = S at *
    clear hsz h0 h6 HRN
    go_enter Tryz.func120, Tryz.ntmps120
    go_wp2_with fail
    exact bodyPost_ret (v := .tuple #[.int .i64 0, .bool false]) (by simp [results, Tryz.f120, go_sem]) rfl ⟨by unfold numE; rw [HR.out]; rfl, HB.out⟩
  have g6 : ¬ 6 < ((bs l).size : Int) := by omega
  by_cases hd : Lib.decFrom 0 l = none
  · have HR : Hid (numW l = (0, false)) := numW_no (by unfold numOk; rw [decide_eq_false (p := Lib.decFrom 0 l ≠ none) (fun h => h hd), Bool.and_false]; rfl)
    have hn : digLen l ≠ l.length := fun e => (dig_all l 0).1 e hd
    have m5 : (((digLen l : Nat) : Int) == ((bs l).size : Int)) = false := by rw [hsz, beq_eq_false_iff_ne]; omega
    have m6 : (((digLen l : Nat) : Int) != ((bs l).size : Int)) = true := by unfold bne; rw [m5]; rfl
    generalize digLen l = D at *
    generalize bs l = S at *
    clear hsz h0 h6 hd hn HB
    go_enter Tryz.func120, Tryz.ntmps120
    go_wp2_with fail
    refine (HRN.out _).mono ?_
    rintro e w2 ⟨rfl, hb⟩
    have HB := Lib.hid hb
    clear hb
    go_wp2_with fail
    exact bodyPost_ret (v := .tuple #[.int .i64 0, .bool false]) (by simp [results, Tryz.f120, go_sem]) rfl ⟨by unfold numE; rw [HR.out]; rfl, HB.out⟩
  obtain ⟨n, hn⟩ := Option.ne_none_iff_exists'.1 hd
  have hdl : digLen l = l.length := (dig_all l 0).2 hd
  have m5 : (((digLen l : Nat) : Int) == ((bs l).size : Int)) = true := by rw [hsz, hdl]; simp
  have m6 : (((digLen l : Nat) : Int) != ((bs l).size : Int)) = false := by unfold bne; rw [m5]; rfl
  have hps : 0 < (bs l).size := by omega
  have hat : ∀ g : 0 < (bs l).size, (bs l)[0]'g = l.getD 0 0 := fun g => ba_at l g
  have hlt := decFrom_lt l 0 n hn
  have hnb : n < 1000000 := by
    have : (10 : Nat) ^ l.length ≤ 10 ^ 6 := Nat.pow_le_pow_right (by omega) h6
    omega
  have HAT : Hid (∀ w, Calls Tryz.prog 178 #[.string (bs l)] w fun e w' => e = .returned (.tuple #[.int .i64 (n : Int), .nilIface]) ∧ Below w.heap.size w w') := fun w => by
    refine (Tryz.strconv_Atoi (bs l) n (by omega) (by rw [bs_data]; exact atoi_dig h0 hn) w).mono ?_
    rintro e w' ⟨e0, t, hw⟩
    exact ⟨e0, by rw [hw]; exact bytes_below _ _ _⟩
  by_cases h1 : 1 < l.length
  · have g1 : 1 < ((bs l).size : Int) := by omega
    by_cases h48 : l.getD 0 0 = 48
    · have HR : Hid (numW l = (0, false)) := numW_no (by unfold numOk; rw [decide_eq_true h1, decide_eq_true h48]; simp)
      rw [h48] at hat
      generalize digLen l = D at *
      generalize bs l = S at *
      clear hsz h0 h6 hd hn hdl hlt HAT h1 h48 HB
      go_enter Tryz.func120, Tryz.ntmps120
      go_wp2_with fail
      refine (HRN.out _).mono ?_
      rintro e w2 ⟨rfl, hb⟩
      have HB := Lib.hid hb
      clear hb
      go_wp2_with fail
      exact bodyPost_ret (v := .tuple #[.int .i64 0, .bool false]) (by simp [results, Tryz.f120, go_sem]) rfl ⟨by unfold numE; rw [HR.out]; rfl, HB.out⟩
    · have HR : Hid (numW l = (n, true)) := numW_yes h0 h6 hn (fun h => h48 h.2)
      have g48 : (((l.getD 0 0).toNat : Int) == 48) = false := neU h48
      generalize digLen l = D at *
      generalize l.getD 0 0 = ch at *
      generalize bs l = S at *
      clear hsz h0 h6 hd hn hdl hlt h1 h48 HB
      go_enter Tryz.func120, Tryz.ntmps120
      go_wp2_with fail
      refine (HRN.out _).mono ?_
      rintro e w2 ⟨rfl, hb⟩
      have HB := Lib.hid hb
      clear hb
      go_wp2_with fail
      refine (HAT.out _).mono ?_
      rintro e w3 ⟨rfl, hb3⟩
      have HB3 : Hid (Below w.heap.size w w3) := HB.out.trans (hb3.mono HB.out.size)
      clear hb3
      go_wp2_with fail
      go_quiet (fail)
      all_goals
        go_wp2_with fail
        exact bodyPost_ret (v := .tuple #[.int .i64 (n : Int), .bool true]) (by simp [results, Tryz.f120, go_sem]) rfl ⟨by unfold numE; rw [HR.out], HB3.out.trans ((below_drewN _ _).mono HB3.out.size)⟩
  · have g1 : ¬ 1 < ((bs l).size : Int) := by omega
    have HR : Hid (numW l = (n, true)) := numW_yes h0 h6 hn (fun h => h1 h.1)
    generalize digLen l = D at *
    generalize l.getD 0 0 = ch at *
    generalize bs l = S at *
    clear hsz h0 h6 hd hn hdl hlt h1 HB
    go_enter Tryz.func120, Tryz.ntmps120
    go_wp2_with fail
    refine (HRN.out _).mono ?_
    rintro e w2 ⟨rfl, hb⟩
    have HB := Lib.hid hb
    clear hb
    go_wp2_with fail
    refine (HAT.out _).mono ?_
    rintro e w3 ⟨rfl, hb3⟩
    have HB3 : Hid (Below w.heap.size w w3) := HB.out.trans (hb3.mono HB.out.size)
    clear hb3
    go_wp2_with fail
    go_quiet (fail)
    all_goals
      go_wp2_with fail
      exact bodyPost_ret (v := .tuple #[.int .i64 (n : Int), .bool true]) (by simp [results, Tryz.f120, go_sem]) rfl ⟨by unfold numE; rw [HR.out], HB3.out.trans ((below_drewN _ _).mono HB3.out.size)⟩
end Go.Proofs.YtmleeodfmmpdgaaGreatDoor
/- Walks: conditions, the program's parser: numbers. -/
namespace Go.Proofs.YtmleeodfmmpdgaaGreatDoor
open Go.RowKit
attribute [local go_sem] Ext.cell Ext.frozen
attribute [local go_sem ↓] Go.wp_at_zero Go.wp_at_succ
theorem dig_low {c : UInt8} (h : digB c = true) : lowB c = false := by
  unfold digB lowB at *
  rw [Bool.and_eq_true, decide_eq_true_eq, decide_eq_true_eq] at h
  rw [← Bool.not_eq_true, Bool.and_eq_true, decide_eq_true_eq, decide_eq_true_eq]
  omega
/-- a token that begins with a digit has no other bytes -/
theorem tokC_dig {l : List UInt8} {c : UInt8} {r : List UInt8} (h : tokC l = c :: r) (hd : digB c = true) : ∀ x ∈ c :: r, digB x = true := by
  cases l with
  | nil => cases h
  | cons a l =>
    have hl := dig_low hd
    rw [tokC] at h
    by_cases h1 : lowB a = true
    · rw [if_pos h1, List.takeWhile_cons, if_pos h1] at h
      injection h with h2 h3
      rw [h2, hl] at h1
      cases h1
    · rw [if_neg h1] at h
      by_cases h2 : digB a = true
      · rw [if_pos h2] at h
        intro x hx
        rw [← h] at hx
        exact List.all_eq_true.1 (List.all_takeWhile (p := digB) (l := a :: l)) x hx
      · rw [if_neg h2] at h
        have key : ∀ m : List UInt8, (∀ x ∈ m, digB x = false) → m = c :: r → False := fun m hm e => by
          have := hm c (by rw [e]; exact List.mem_cons_self)
          rw [hd] at this
          cases this
        have h2' : digB a = false := by simpa using h2
        split at h
        · exact (key _ (by decide) h).elim
        · split at h
          · exact (key _ (by decide) h).elim
          · split at h
            · exact (key _ (by simp [h2']) h).elim
            · cases h
theorem dec_all : ∀ (l : List UInt8) (acc : Nat), (∀ x ∈ l, digB x = true) → Lib.decFrom acc l = some (l.foldl (fun n c => 10 * n + (c.toNat - 48)) acc)
  | [], acc, _ => rfl
  | c :: l, acc, h => by
    have hc := h c List.mem_cons_self
    unfold digB at hc
    rw [Bool.and_eq_true, decide_eq_true_eq, decide_eq_true_eq] at hc
    have hd : Lib.digitVal c = some (c.toNat - 48) := by unfold Lib.digitVal; rw [if_pos hc]
    rw [Lib.decFrom, hd]
    show Lib.decFrom (acc * 10 + (c.toNat - 48)) l = _
    rw [dec_all l _ (fun x hx => h x (List.mem_cons_of_mem _ hx)), List.foldl_cons, Nat.mul_comm]
theorem numC_atoi {s : List UInt8} {i : Nat} (h : numC (tokI s i) = true) : Lib.atoi (tokI s i) = some (decC (tokI s i) : Int) ∧ (tokI s i).length ≤ 3 ∧ 1 ≤ (tokI s i).length ∧ decC (tokI s i) ≤ 999 := by
  unfold tokI at *
  cases ht : tokC (s.drop (skipI s i)) with
  | nil => rw [ht] at h; cases h
  | cons c r =>
    rw [ht] at h
    unfold numC at h
    rw [Bool.and_eq_true, Bool.and_eq_true, decide_eq_true_eq] at h
    have ha := tokC_dig ht h.1.1
    have hlt := decFrom_lt (c :: r) 0 _ (dec_all (c :: r) 0 ha)
    have hp : (10 : Nat) ^ (c :: r).length ≤ 10 ^ 3 := Nat.pow_le_pow_right (by omega) (by rw [List.length_cons]; omega)
    refine ⟨atoi_dig (by simp) (dec_all (c :: r) 0 ha), by simp; omega, by simp, ?_⟩
    unfold decC
    omega
theorem CP.num_no {s : List UInt8} {chk : Int → Int} {p : CP} (h : numC (tokI s p.pos) = false) : p.number s chk = (0, (p.skip s).fail 3) := by
  have e : ¬ ((p.skip s).fail 3).err = 0 := CP.fail_e (by decide) _
  unfold CP.number
  simp only [h, Bool.false_eq_true, if_false, e]
theorem CP.num_err {s : List UInt8} {chk : Int → Int} {p : CP} (he : p.err ≠ 0) : p.number s chk = (0, p.skip s) := by
  have e : ¬ (p.skip s).err = 0 := he
  have hf : (p.skip s).fail 3 = p.skip s := by unfold CP.fail; rw [if_neg e]
  unfold CP.number
  simp only [hf, ite_self, e, if_false]
theorem CP.num_ok {s : List UInt8} {chk : Int → Int} {p : CP} (h : numC (tokI s p.pos) = true) (he : p.err = 0) (hc : chk (decC (tokI s p.pos)) = 0) : p.number s chk = ((decC (tokI s p.pos) : Int), (p.skip s).adv (tokI s p.pos).length) := by
  have e : (p.skip s).err = 0 := he
  unfold CP.number
  simp only [h, if_true, e, hc]
theorem CP.num_bad {s : List UInt8} {chk : Int → Int} {p : CP} (h : numC (tokI s p.pos) = true) (he : p.err = 0) (hc : chk (decC (tokI s p.pos)) ≠ 0) : p.number s chk = (0, (p.skip s).fail (chk (decC (tokI s p.pos)))) := by
  have e : (p.skip s).err = 0 := he
  unfold CP.number
  simp only [h, if_true, e, hc, if_false]
set_option maxRecDepth 20000 in
set_option maxHeartbeats 4000000 in
theorem cnum_any (b : Nat) (S : ByteArray) (p : CP) (w : World) (h : Pq w b S p) (g : Nat) (lb : Array Value) (eg : ∀ args w, (callFunc g args).run Tryz.prog w = .ok (.enter g args) w) (chk : Int → Int)
    (hc : ∀ (n : Nat) W, n ≤ 999 → Kp (oneP b) w W → Calls Tryz.prog g (#[.int .i64 (n : Int)] ++ lb) W fun e w' => e = .returned (.int .i64 (chk n)) ∧ Below W.heap.size W w') :
    Calls Tryz.prog 340 #[.pointer (some ⟨b, 0, none⟩), .func (.func g) #[] lb] w (PqP b S (.int .i64 (p.number S.data.toList chk).1) (p.number S.data.toList chk).2 w) := by
  have HP := Lib.hid (cpeek_any b S p w h)
  have HF3 := Lib.hid (fun W (g : Pq W b S (p.skip S.data.toList)) => cfail_any b S 3 (p.skip S.data.toList) W g)
  have HFE := Lib.hid (fun e W (g : Pq W b S (p.skip S.data.toList)) => cfail_any b S e (p.skip S.data.toList) W g)
  have HCK := Lib.hid hc
  have HDG := Lib.hid cdigit_any
  have hle := tokI_le (s := S.data.toList) (i := p.pos) (by rw [ba_len]; exact h.2.1)
  rw [ba_len] at hle
  have HNO := Lib.hid (@CP.num_no S.data.toList chk p)
  have HER := Lib.hid (@CP.num_err S.data.toList chk p)
  have HOK := Lib.hid (@CP.num_ok S.data.toList chk p)
  have HBD := Lib.hid (@CP.num_bad S.data.toList chk p)
  have HAT := Lib.hid (@numC_atoi S.data.toList p.pos)
  have HSKE : Hid ((p.skip S.data.toList).pos = skipI S.data.toList p.pos) := rfl
  have HSKR : Hid ((p.skip S.data.toList).err = p.err) := rfl
  have hsz := h.2.2.2
  unfold PqP at HP HF3 HFE ⊢
  clear h hc
  generalize p.number S.data.toList chk = res at *
  generalize tokI S.data.toList p.pos = tk at *
  generalize p.skip S.data.toList = q at *
  generalize skipI S.data.toList p.pos = k0 at *
  go_enter Tryz.func340, Tryz.ntmps340
  go_wp2_with fail
  refine HP.out.mono ?_
  rintro _ w1 ⟨rfl, hpc, hkp⟩
  have HPC := Lib.hid hpc
  have HK := Lib.hid hkp
  obtain ⟨c0, c1, _, c3, f1, _, _⟩ := hpc.cells
  have hb := hpc.lt
  clear hpc hkp HP
  rw [HSKE.out] at c1
  cases tk with
  | nil =>
    have he1 : (bs ([] : List UInt8)).toList = [] := bs_toList _
    clear HER HOK HBD HAT
    go_wp2_with fail
    refine (HF3.out _ HPC.out).mono ?_
    rintro _ w3 ⟨rfl, hr, hk⟩
    have HR3 := Lib.hid hr
    have HK3 := Lib.hid (HK.out.trans hk)
    obtain ⟨_, _, _, c3, _, _, _⟩ := hr.cells
    have hne4 : ((q.fail 3).err == 0) = false := by simpa using CP.fail_e (e := 3) (by decide) q
    have HNX := Lib.hid (HNO.out rfl)
    clear hr hk
    go_wp2_with fail
    go_ret
    exact ⟨by rw [HNX.out]; rfl, by rw [HNX.out]; exact HR3.out, HK3.out⟩
  | cons ch r =>
    have he1 : (bs (ch :: r)).toList = ch :: r := bs_toList _
    have hne : ((bs (ch :: r)).toList == ([] : List UInt8)) = false := by rw [he1]; rfl
    have hem : (bs (ch :: r)).toList.isEmpty = false := by rw [he1]; rfl
    have hsz2 : (bs (ch :: r)).size = r.length + 1 := bs_size _
    have hat : ∀ g, (bs (ch :: r))[0]'g = ch := fun g => rfl
    have HNC : Hid (numC (ch :: r) = (digB ch && decide (r.length ≤ 2) && (r.isEmpty || !(ch == 48)))) := rfl
    have HCE : Hid (((ch.toNat : Int) = 48) ↔ ch = 48) := ⟨fun h => UInt8.toNat_inj.1 (by show ch.toNat = 48; omega), fun h => by rw [h]; rfl⟩
    have HATI : Hid (numC (ch :: r) = true → ∀ W, Calls Tryz.prog 178 #[.string (bs (ch :: r))] W fun e w' => e = .returned (.tuple #[.int .i64 (decC (ch :: r) : Int), .nilIface]) ∧ Below W.heap.size W w') := fun h W => by
      obtain ⟨h1, h2, h3, _⟩ := HAT.out h
      refine (Tryz.strconv_Atoi (bs (ch :: r)) (decC (ch :: r) : Int) (by rw [bs_size]; omega) (by rw [bs_data]; exact h1) W).mono ?_
      rintro e w' ⟨e0, t, hw⟩
      exact ⟨e0, by rw [hw]; exact bytes_below _ _ _⟩
    have HDB : Hid (numC (ch :: r) = true → decC (ch :: r) ≤ 999) := fun h => (HAT.out h).2.2.2
    have HLEN : Hid ((ch :: r).length = r.length + 1) := rfl
    rw [HLEN.out] at hle
    clear he1 HAT
    generalize numC (ch :: r) = nc at *
    generalize decC (ch :: r) = dv at *
    generalize bs (ch :: r) = TK at *
    have hgt : 0 < TK.size := by omega
    have HSZ2 := Lib.hid hsz2
    go_wp2_with fail
    refine (HDG.out ch _).mono ?_
    rintro _ _ ⟨rfl, rfl⟩
    generalize digB ch = q1 at *
    cases q1 with
    | false =>
      have HNF : Hid (nc = false) := by rw [Hid, HNC.out]; rfl
      clear HER HOK HBD HATI HDB HNC
      go_wp2_with fail
      refine (HF3.out _ HPC.out).mono ?_
      rintro _ w3 ⟨rfl, hr, hk⟩
      have HR3 := Lib.hid hr
      have HK3 := Lib.hid (HK.out.trans hk)
      obtain ⟨_, _, _, c3, _, _, _⟩ := hr.cells
      have hne4 : ((q.fail 3).err == 0) = false := by simpa using CP.fail_e (e := 3) (by decide) q
      have HNX := Lib.hid (HNO.out HNF.out)
      clear hr hk
      go_wp2_with fail
      go_ret
      exact ⟨by rw [HNX.out]; rfl, by rw [HNX.out]; exact HR3.out, HK3.out⟩
    | true =>
      by_cases hl2 : r.length ≤ 2
      · have hl3 : ¬ (3 : Int) < (TK.size : Int) := by omega
        have hl3d : decide ((3 : Int) < (TK.size : Int)) = false := decide_eq_false hl3
        by_cases hl1 : r.length = 0
        · have hg1 : ¬ (1 : Int) < (TK.size : Int) := by omega
          have hg1d : decide ((1 : Int) < (TK.size : Int)) = false := decide_eq_false hg1
          have HNT : Hid (nc = true) := by
            rw [Hid, HNC.out, decide_eq_true hl2, List.eq_nil_of_length_eq_zero hl1]; rfl
          clear HNC hsz2 HNO
          by_cases he : q.err = 0
          · have hz : (q.err == 0) = true := by simpa using he
            have hbn : (q.err != 0) = false := by rw [bne, hz]; rfl
            have he2 : p.err = 0 := by rw [← HSKR.out]; exact he
            have HATJ := Lib.hid (HATI.out HNT.out)
            have hdv := HDB.out HNT.out
            rw [he] at c3
            go_wp2_with fail
            refine (HATJ.out _).mono ?_
            rintro _ w2 ⟨rfl, hbw⟩
            have HPC2 := Lib.hid (HPC.out.below hbw)
            have HK2 := Lib.hid (HK.out.trans (kp_below hbw))
            clear hbw
            have HC1 := Lib.hid (HCK.out dv _ hdv HK2.out)
            by_cases hcz : chk dv = 0
            · have HNX := Lib.hid (HOK.out HNT.out he2 hcz)
              rw [Hid, hcz] at HC1
              have HPP : Hid (∀ W, Pq W b S q → Pq (W.setCell ⟨b, 1, none⟩ (.int .i64 ((k0 : Int) + (TK.size : Int)))) b S (q.adv TK.size)) := fun W g => by
                have hkz : k0 + TK.size ≤ S.size := by rw [HSZ2.out]; exact hle
                have := g.pos (k0 + TK.size) hkz
                rw [show ((k0 + TK.size : Nat) : Int) = (k0 : Int) + (TK.size : Int) by omega] at this
                have e : q.adv TK.size = { q with pos := k0 + TK.size } := by unfold CP.adv; rw [HSKE.out]
                rw [e]
                exact this
              have htz : TK.size ≤ 200000 := by have := HSZ2.out; omega
              clear HOK HBD HER HATI HDB hcz
              go_wp2_with (go_at_fn g; refine HC1.mono ?_; rintro _ w4 ⟨rfl, hb4⟩; have HPC4 := Lib.hid (HPC2.out.below hb4); have HK4 := Lib.hid (HK2.out.trans (kp_below hb4)); obtain ⟨_, d1, _, d3, g1, _, _⟩ := HPC4.out.cells; rw [HSKE.out] at d1; clear hb4)
              go_ret
              exact ⟨by rw [HNX.out]; rfl, by rw [HNX.out]; show Pq _ b S (q.adv (r.length + 1)); rw [← HSZ2.out]; exact HPP.out _ HPC4.out, HK4.out.set (p := ⟨b, 1, none⟩) (oneP_self b) _⟩
            · have HNX := Lib.hid (HBD.out HNT.out he2 hcz)
              have hczb : (chk dv == 0) = false := by simpa using hcz
              have hczn : (chk dv != 0) = true := by rw [bne, hczb]; rfl
              have HFE1 := Lib.hid (HFE.out (chk dv))
              clear HOK HBD HER HATI HDB
              go_wp2_with (go_at_fn g; refine HC1.mono ?_; rintro _ w4 ⟨rfl, hb4⟩; have HPC4 := Lib.hid (HPC2.out.below hb4); have HK4 := Lib.hid (HK2.out.trans (kp_below hb4)); clear hb4)
              refine (HFE1.out _ HPC4.out).mono ?_
              rintro _ w5 ⟨rfl, hr, hk⟩
              have HR5 := Lib.hid hr
              have HK5 := Lib.hid (HK4.out.trans hk)
              clear hr hk
              go_wp2_with fail
              go_ret
              exact ⟨by rw [HNX.out]; rfl, by rw [HNX.out]; exact HR5.out, HK5.out⟩
          · have he2 : p.err ≠ 0 := by rw [← HSKR.out]; exact he
            have hz : (q.err == 0) = false := by simpa using he
            have hbn : (q.err != 0) = true := by rw [bne, hz]; rfl
            have HNX := Lib.hid (HER.out he2)
            clear HOK HBD HER HATI HDB
            go_wp2_with fail
            go_ret
            exact ⟨by rw [HNX.out]; rfl, by rw [HNX.out]; exact HPC.out, HK.out⟩
        · have hg1 : (1 : Int) < (TK.size : Int) := by omega
          have hg1d : decide ((1 : Int) < (TK.size : Int)) = true := decide_eq_true hg1
          have hre : r.isEmpty = false := by cases r with
            | nil => exact absurd rfl hl1
            | cons _ _ => rfl
          by_cases h48 : ch = 48
          · have h48i : (ch.toNat : Int) = 48 := HCE.out.2 h48
            have h48b : ((ch.toNat : Int) == 48) = true := by rw [h48i]; rfl
            have HNF : Hid (nc = false) := by
              rw [Hid, HNC.out, decide_eq_true hl2, hre, h48]; rfl
            clear HER HOK HBD HATI HDB HNC hsz2 h48 h48i
            go_wp2_with fail
            refine (HF3.out _ HPC.out).mono ?_
            rintro _ w3 ⟨rfl, hr, hk⟩
            have HR3 := Lib.hid hr
            have HK3 := Lib.hid (HK.out.trans hk)
            obtain ⟨_, _, _, c3, _, _, _⟩ := hr.cells
            have hne4 : ((q.fail 3).err == 0) = false := by simpa using CP.fail_e (e := 3) (by decide) q
            have HNX := Lib.hid (HNO.out HNF.out)
            clear hr hk
            go_wp2_with fail
            go_ret
            exact ⟨by rw [HNX.out]; rfl, by rw [HNX.out]; exact HR3.out, HK3.out⟩
          · have h48i : ¬ (ch.toNat : Int) = 48 := fun h => h48 (HCE.out.1 h)
            have h48b : ((ch.toNat : Int) == 48) = false := by simpa using h48i
            have HNT : Hid (nc = true) := by
              have e48 : (ch == 48) = false := by simpa using h48
              rw [Hid, HNC.out, decide_eq_true hl2, hre, e48]; rfl
            clear HNC hsz2 HNO
            by_cases he : q.err = 0
            · have hz : (q.err == 0) = true := by simpa using he
              have hbn : (q.err != 0) = false := by rw [bne, hz]; rfl
              have he2 : p.err = 0 := by rw [← HSKR.out]; exact he
              have HATJ := Lib.hid (HATI.out HNT.out)
              have hdv := HDB.out HNT.out
              rw [he] at c3
              go_wp2_with fail
              refine (HATJ.out _).mono ?_
              rintro _ w2 ⟨rfl, hbw⟩
              have HPC2 := Lib.hid (HPC.out.below hbw)
              have HK2 := Lib.hid (HK.out.trans (kp_below hbw))
              clear hbw
              have HC1 := Lib.hid (HCK.out dv _ hdv HK2.out)
              by_cases hcz : chk dv = 0
              · have HNX := Lib.hid (HOK.out HNT.out he2 hcz)
                rw [Hid, hcz] at HC1
                have HPP : Hid (∀ W, Pq W b S q → Pq (W.setCell ⟨b, 1, none⟩ (.int .i64 ((k0 : Int) + (TK.size : Int)))) b S (q.adv TK.size)) := fun W g => by
                  have hkz : k0 + TK.size ≤ S.size := by rw [HSZ2.out]; exact hle
                  have := g.pos (k0 + TK.size) hkz
                  rw [show ((k0 + TK.size : Nat) : Int) = (k0 : Int) + (TK.size : Int) by omega] at this
                  have e : q.adv TK.size = { q with pos := k0 + TK.size } := by unfold CP.adv; rw [HSKE.out]
                  rw [e]
                  exact this
                have htz : TK.size ≤ 200000 := by have := HSZ2.out; omega
                clear HOK HBD HER HATI HDB hcz
                go_wp2_with (go_at_fn g; refine HC1.mono ?_; rintro _ w4 ⟨rfl, hb4⟩; have HPC4 := Lib.hid (HPC2.out.below hb4); have HK4 := Lib.hid (HK2.out.trans (kp_below hb4)); obtain ⟨_, d1, _, d3, g1, _, _⟩ := HPC4.out.cells; rw [HSKE.out] at d1; clear hb4)
                go_ret
                exact ⟨by rw [HNX.out]; rfl, by rw [HNX.out]; show Pq _ b S (q.adv (r.length + 1)); rw [← HSZ2.out]; exact HPP.out _ HPC4.out, HK4.out.set (p := ⟨b, 1, none⟩) (oneP_self b) _⟩
              · have HNX := Lib.hid (HBD.out HNT.out he2 hcz)
                have hczb : (chk dv == 0) = false := by simpa using hcz
                have hczn : (chk dv != 0) = true := by rw [bne, hczb]; rfl
                have HFE1 := Lib.hid (HFE.out (chk dv))
                clear HOK HBD HER HATI HDB
                go_wp2_with (go_at_fn g; refine HC1.mono ?_; rintro _ w4 ⟨rfl, hb4⟩; have HPC4 := Lib.hid (HPC2.out.below hb4); have HK4 := Lib.hid (HK2.out.trans (kp_below hb4)); clear hb4)
                refine (HFE1.out _ HPC4.out).mono ?_
                rintro _ w5 ⟨rfl, hr, hk⟩
                have HR5 := Lib.hid hr
                have HK5 := Lib.hid (HK4.out.trans hk)
                clear hr hk
                go_wp2_with fail
                go_ret
                exact ⟨by rw [HNX.out]; rfl, by rw [HNX.out]; exact HR5.out, HK5.out⟩
            · have he2 : p.err ≠ 0 := by rw [← HSKR.out]; exact he
              have hz : (q.err == 0) = false := by simpa using he
              have hbn : (q.err != 0) = true := by rw [bne, hz]; rfl
              have HNX := Lib.hid (HER.out he2)
              clear HOK HBD HER HATI HDB
              go_wp2_with fail
              go_ret
              exact ⟨by rw [HNX.out]; rfl, by rw [HNX.out]; exact HPC.out, HK.out⟩
      · have hl3 : (3 : Int) < (TK.size : Int) := by omega
        have hl3d : decide ((3 : Int) < (TK.size : Int)) = true := decide_eq_true hl3
        have HNF : Hid (nc = false) := by
          rw [Hid, HNC.out, decide_eq_false hl2]; rfl
        clear HER HOK HBD HATI HDB HNC hsz2
        go_wp2_with fail
        refine (HF3.out _ HPC.out).mono ?_
        rintro _ w3 ⟨rfl, hr, hk⟩
        have HR3 := Lib.hid hr
        have HK3 := Lib.hid (HK.out.trans hk)
        obtain ⟨_, _, _, c3, _, _, _⟩ := hr.cells
        have hne4 : ((q.fail 3).err == 0) = false := by simpa using CP.fail_e (e := 3) (by decide) q
        have HNX := Lib.hid (HNO.out HNF.out)
        clear hr hk
        go_wp2_with fail
        go_ret
        exact ⟨by rw [HNX.out]; rfl, by rw [HNX.out]; exact HR3.out, HK3.out⟩
end Go.Proofs.YtmleeodfmmpdgaaGreatDoor
/- Walks: conditions, the program's parser: spans. -/
namespace Go.Proofs.YtmleeodfmmpdgaaGreatDoor
open Go.RowKit
attribute [local go_sem] Ext.cell Ext.frozen
attribute [local go_sem ↓] Go.wp_at_zero Go.wp_at_succ
theorem Kp.setN {P : Nat → Bool} {a w : World} (h : Kp P a w) {p : Addr} (hp : a.heap.size ≤ p.block) (u : Value) : Kp P a (w.setCell p u) :=
  h.then (Q := oneP p.block) ((Kp.refl _ w).set (oneP_self _) u) (fun i hi e => by
    have := of_decide_eq_true e
    omega)
theorem Pq.other {w : World} {b : Nat} {S : ByteArray} {p : CP} (h : Pq w b S p) {a : Addr} (hne : a.block ≠ b) (u : Value) : Pq (w.setCell a u) b S p :=
  ⟨h.1.kp (P := oneP a.block) ((Kp.refl _ w).set (oneP_self _) u) (oneP_ne (fun e => hne e.symm)), h.2⟩
theorem Cel.other {w : World} {b : Nat} {T : TypeId} {cs : List Value} (h : Cel w b T cs) {a : Addr} (hne : a.block ≠ b) (u : Value) : Cel (w.setCell a u) b T cs :=
  h.kp (P := oneP a.block) ((Kp.refl _ w).set (oneP_self _) u) (oneP_ne (fun e => hne e.symm))
set_option maxRecDepth 20000 in
set_option maxHeartbeats 4000000 in
theorem cspan1_any (o1 o2 : Nat) (op : Int) (count : Nat) (n : Nat) (W : World) (h1 : W.cell? ⟨o1, 0, none⟩ = some (.int .i64 op)) (h2 : W.cell? ⟨o2, 0, none⟩ = some (.int .i64 (count : Int))) : Calls Tryz.prog 347 #[.int .i64 (n : Int), .pointer (some ⟨o1, 0, none⟩), .pointer (some ⟨o2, 0, none⟩)] W fun e w' => e = .returned (.int .i64 (chk1 op count n)) ∧ Below W.heap.size W w' := by
  have HG := Lib.hid (great_any op)
  have HV : Hid (chk1 op count n = (if greatV op < (n : Int) then 2 else if 4 ≤ count then 6 else 0)) := rfl
  generalize chk1 op count n = res at *
  generalize greatV op = gv at *
  by_cases g1 : gv < (n : Int)
  · rw [if_pos g1] at HV
    have gd : decide (gv < (n : Int)) = true := decide_eq_true g1
    go_enter Tryz.func347, Tryz.ntmps347
    go_wp2_with fail
    refine (HG.out _).mono ?_
    rintro _ _ ⟨rfl, rfl⟩
    go_wp2_with fail
    go_ret
    exact ⟨by rw [HV.out]; rfl, Below.refl _ _⟩
  · rw [if_neg g1] at HV
    have gd : decide (gv < (n : Int)) = false := decide_eq_false g1
    by_cases g2 : 4 ≤ count
    · rw [if_pos g2] at HV
      have g2z : (4 : Int) ≤ (count : Int) := by omega
      have g2d : decide ((4 : Int) ≤ (count : Int)) = true := decide_eq_true g2z
      go_enter Tryz.func347, Tryz.ntmps347
      go_wp2_with fail
      refine (HG.out _).mono ?_
      rintro _ _ ⟨rfl, rfl⟩
      go_wp2_with fail
      go_ret
      exact ⟨by rw [HV.out]; rfl, Below.refl _ _⟩
    · rw [if_neg g2] at HV
      have g2z : ¬ (4 : Int) ≤ (count : Int) := by omega
      have g2d : decide ((4 : Int) ≤ (count : Int)) = false := decide_eq_false g2z
      go_enter Tryz.func347, Tryz.ntmps347
      go_wp2_with fail
      refine (HG.out _).mono ?_
      rintro _ _ ⟨rfl, rfl⟩
      go_wp2_with fail
      go_ret
      exact ⟨by rw [HV.out]; rfl, Below.refl _ _⟩
set_option maxRecDepth 20000 in
set_option maxHeartbeats 4000000 in
theorem cspan2_any (o1 o2 : Nat) (op x : Int) (n : Nat) (W : World) (h1 : W.cell? ⟨o1, 0, none⟩ = some (.int .i64 op)) (h2 : W.cell? ⟨o2, 0, none⟩ = some (.int .i64 x)) : Calls Tryz.prog 348 #[.int .i64 (n : Int), .pointer (some ⟨o1, 0, none⟩), .pointer (some ⟨o2, 0, none⟩)] W fun e w' => e = .returned (.int .i64 (chk2 op x n)) ∧ Below W.heap.size W w' := by
  have HG := Lib.hid (great_any op)
  have HV : Hid (chk2 op x n = (if greatV op < (n : Int) ∨ (n : Int) < x then 2 else 0)) := rfl
  generalize chk2 op x n = res at *
  generalize greatV op = gv at *
  by_cases g1 : gv < (n : Int)
  · rw [if_pos (.inl g1)] at HV
    have gd : decide (gv < (n : Int)) = true := decide_eq_true g1
    go_enter Tryz.func348, Tryz.ntmps348
    go_wp2_with fail
    refine (HG.out _).mono ?_
    rintro _ _ ⟨rfl, rfl⟩
    go_wp2_with fail
    go_ret
    exact ⟨by rw [HV.out]; rfl, Below.refl _ _⟩
  · have gd : decide (gv < (n : Int)) = false := decide_eq_false g1
    by_cases g2 : (n : Int) < x
    · rw [if_pos (.inr g2)] at HV
      have g2d : decide ((n : Int) < x) = true := decide_eq_true g2
      go_enter Tryz.func348, Tryz.ntmps348
      go_wp2_with fail
      refine (HG.out _).mono ?_
      rintro _ _ ⟨rfl, rfl⟩
      go_wp2_with fail
      go_ret
      exact ⟨by rw [HV.out]; rfl, Below.refl _ _⟩
    · rw [if_neg (fun h => h.elim g1 g2)] at HV
      have g2d : decide ((n : Int) < x) = false := decide_eq_false g2
      go_enter Tryz.func348, Tryz.ntmps348
      go_wp2_with fail
      refine (HG.out _).mono ?_
      rintro _ _ ⟨rfl, rfl⟩
      go_wp2_with fail
      go_ret
      exact ⟨by rw [HV.out]; rfl, Below.refl _ _⟩
set_option maxRecDepth 20000 in
set_option maxHeartbeats 4000000 in
theorem cspan_any (b : Nat) (S : ByteArray) (op : Int) (count : Nat) (p : CP) (w : World) (h : Pq w b S p) : Calls Tryz.prog 342 #[.pointer (some ⟨b, 0, none⟩), .int .i64 op, .int .i64 (count : Int)] w (PqP b S (.agg #[.int .i64 (CP.span S.data.toList op count p).1.1, .int .i64 (CP.span S.data.toList op count p).1.2]) (CP.span S.data.toList op count p).2 w) := by
  have hmf : ∀ (fn : Fn) (first cap : Array Value) (w : World), (Instr.makeFunc fn first cap).run Tryz.prog w = .ok (.func fn first cap) w := fun _ _ _ _ => rfl
  have HN1 : Hid (∀ W, Pq W b S p → ∀ o1 o2, o1 ≠ b → o2 ≠ b → W.cell? ⟨o1, 0, none⟩ = some (.int .i64 op) → W.cell? ⟨o2, 0, none⟩ = some (.int .i64 (count : Int)) → Calls Tryz.prog 340 #[.pointer (some ⟨b, 0, none⟩), .func (.func 347) #[] #[.pointer (some ⟨o1, 0, none⟩), .pointer (some ⟨o2, 0, none⟩)]] W (PqP b S (.int .i64 (CP.number S.data.toList (chk1 op count) p).1) (CP.number S.data.toList (chk1 op count) p).2 W)) := fun W g o1 o2 n1 n2 e1 e2 =>
    cnum_any b S p W g 347 _ (enters_of Tryz.func347 (by kernel_rfl) rfl) (chk1 op count) (fun n V _ hk => cspan1_any o1 o2 op count n V (hk.cell (oneP_ne n1) e1) (hk.cell (oneP_ne n2) e2))
  have HN2 : Hid (∀ x q W, Pq W b S q → ∀ o1 o2, o1 ≠ b → o2 ≠ b → W.cell? ⟨o1, 0, none⟩ = some (.int .i64 op) → W.cell? ⟨o2, 0, none⟩ = some (.int .i64 x) → Calls Tryz.prog 340 #[.pointer (some ⟨b, 0, none⟩), .func (.func 348) #[] #[.pointer (some ⟨o1, 0, none⟩), .pointer (some ⟨o2, 0, none⟩)]] W (PqP b S (.int .i64 (CP.number S.data.toList (chk2 op x) q).1) (CP.number S.data.toList (chk2 op x) q).2 W)) := fun x q W g o1 o2 n1 n2 e1 e2 =>
    cnum_any b S q W g 348 _ (enters_of Tryz.func348 (by kernel_rfl) rfl) (chk2 op x) (fun n V _ hk => cspan2_any o1 o2 op x n V (hk.cell (oneP_ne n1) e1) (hk.cell (oneP_ne n2) e2))
  have HNX := Lib.hid (fun q W (g : Pq W b S q) => cnext_any b S [46, 46] (by decide) q W g)
  have HP := Lib.hid h
  have hb := h.lt
  have HV : Hid (CP.span S.data.toList op count p = (if (CP.next S.data.toList [46, 46] (CP.number S.data.toList (chk1 op count) p).2).1 then ((((CP.number S.data.toList (chk1 op count) p).1, (CP.number S.data.toList (chk2 op (CP.number S.data.toList (chk1 op count) p).1) (CP.next S.data.toList [46, 46] (CP.number S.data.toList (chk1 op count) p).2).2).1), (CP.number S.data.toList (chk2 op (CP.number S.data.toList (chk1 op count) p).1) (CP.next S.data.toList [46, 46] (CP.number S.data.toList (chk1 op count) p).2).2).2) : (Int × Int) × CP) else (((CP.number S.data.toList (chk1 op count) p).1, (CP.number S.data.toList (chk1 op count) p).1), (CP.next S.data.toList [46, 46] (CP.number S.data.toList (chk1 op count) p).2).2))) := rfl
  unfold PqP at HN1 HN2 HNX ⊢
  clear h
  generalize CP.span S.data.toList op count p = res at *
  generalize CP.number S.data.toList (chk1 op count) p = r1 at *
  obtain ⟨x, p1⟩ := r1
  simp only at HV HN1
  have HN2 := Lib.hid (HN2.out x)
  have HNX := Lib.hid (HNX.out p1)
  generalize CP.next S.data.toList [46, 46] p1 = r2 at *
  go_enter Tryz.func342, Tryz.ntmps342
  go_upto_region 1 with (fail)
  refine wp_at_worldB ?_
  intro w0 hw0
  have HS0 : Hid (w0.heap.size = w.heap.size + 3) := by rw [Hid, hw0]; simp
  have HB0 : Hid (Below w.heap.size w w0) := by rw [hw0]; exact Bel.alloc (Bel.alloc (Bel.alloc (Bel.refl w) _) _) _
  have HC1 : Hid (Cel w0 w.heap.size 3 [.int .i64 op]) := by
    rw [hw0]
    exact ((Cel.new w [.int .i64 op] 3).below (Bel.alloc (Bel.refl _) _)).below (Bel.alloc (Bel.refl _) _)
  have HC2 : Hid (Cel w0 (w.heap.size + 1) 3 [.int .i64 (count : Int)]) := by
    have := (Cel.new (w.alloc (.cells #[.int .i64 op] 3)) [.int .i64 (count : Int)] 3).below (Bel.alloc (Bel.refl _) (.cells #[.int .i64 0, .int .i64 0] 152))
    rw [show (w.alloc (.cells #[.int .i64 op] 3)).heap.size = w.heap.size + 1 by simp] at this
    rw [hw0]
    exact this
  have HC3 : Hid (Cel w0 (w.heap.size + 1 + 1) 152 [.int .i64 0, .int .i64 0]) := by
    have := Cel.new ((w.alloc (.cells #[.int .i64 op] 3)).alloc (.cells #[.int .i64 (count : Int)] 3)) [.int .i64 0, .int .i64 0] 152
    rw [show ((w.alloc (.cells #[.int .i64 op] 3)).alloc (.cells #[.int .i64 (count : Int)] 3)).heap.size = w.heap.size + 1 + 1 by simp] at this
    rw [hw0]
    exact this
  have HP0 := Lib.hid (HP.out.below HB0.out)
  clear hw0 HP
  obtain ⟨n0, hn0⟩ : ∃ n, w.heap.size = n := ⟨_, rfl⟩
  rw [hn0] at HC1 HC2 HC3 HS0 hb ⊢
  have HN0 := Lib.hid hn0
  clear hn0
  go_wp2_with fail
  refine (HN1.out _ HP0.out n0 (n0 + 1) (by omega) (by omega) (HC1.out.cell 0) (HC2.out.cell 0)).mono ?_
  rintro _ w1 ⟨rfl, hpc, hkp⟩
  have HP1 := Lib.hid hpc
  have HK1 := Lib.hid ((kp_below (P := oneP b) HB0.out).trans hkp)
  have HC11 := Lib.hid (HC1.out.kp hkp (oneP_ne (by omega)))
  have HC31 := Lib.hid (HC3.out.kp hkp (oneP_ne (by omega)))
  have hz1 : n0 + 3 ≤ w1.heap.size := by have := hkp.size; have := HS0.out; omega
  clear hpc hkp HN1 HC1 HC2 HC3 HP0 HB0
  go_upto_region 4 with (fail)
  have HP2 := Lib.hid (HP1.out.below (Bel.alloc (Bel.refl w1) (.cells #[.int .i64 x, .int .i64 x] 152)))
  have HK2 := Lib.hid (HK1.out.alloc (.cells #[.int .i64 x, .int .i64 x] 152))
  have HC12 := Lib.hid (HC11.out.below (Bel.alloc (Bel.refl w1) (.cells #[.int .i64 x, .int .i64 x] 152)))
  have HC32 := Lib.hid (HC31.out.below (Bel.alloc (Bel.refl w1) (.cells #[.int .i64 x, .int .i64 x] 152)))
  have HX2 : Hid (Cel (w1.alloc (.cells #[.int .i64 x, .int .i64 x] 152)) w1.heap.size 152 [.int .i64 x, .int .i64 x]) := Cel.new w1 _ _
  generalize w1.alloc (.cells #[.int .i64 x, .int .i64 x] 152) = w2 at *
  obtain ⟨X, hX⟩ : ∃ X, w1.heap.size = X := ⟨_, rfl⟩
  rw [hX] at HX2 hz1 ⊢
  clear hX HP1 HK1 HC11 HC31
  go_wp2_with fail
  refine (HNX.out _ HP2.out).mono ?_
  rintro _ w3 ⟨rfl, hpc, hkp⟩
  obtain ⟨more, p2⟩ := r2
  simp only at hpc HV
  have HP3 := Lib.hid hpc
  have HK3 := Lib.hid (HK2.out.trans hkp)
  have HC13 := Lib.hid (HC12.out.kp hkp (oneP_ne (by omega)))
  have HC33 := Lib.hid (HC32.out.kp hkp (oneP_ne (by omega)))
  have HX3 := Lib.hid (HX2.out.kp hkp (oneP_ne (by omega)))
  clear hpc hkp HP2 HK2 HC12 HC32 HX2 HNX
  have hnX : X ≠ n0 + 1 + 1 := by omega
  cases more with
  | true =>
    rw [if_pos rfl] at HV
    have x0 := HX3.out.cell 0
    have x1 := HX3.out.cell 1
    simp only [List.getElem?_cons_zero, List.getElem?_cons_succ] at x0 x1
    go_wp2_with fail
    refine (HN2.out p2 _ HP3.out n0 X (by omega) (by omega) (HC13.out.cell 0) (HX3.out.cell 0)).mono ?_
    generalize CP.number S.data.toList (chk2 op x) p2 = r4 at *
    obtain ⟨y, p4⟩ := r4
    simp only at HV ⊢
    rintro _ w4 ⟨rfl, hpc, hkp⟩
    have HP4 := Lib.hid hpc
    have HK4 := Lib.hid (HK3.out.trans hkp)
    have HC34 := Lib.hid (HC33.out.kp hkp (oneP_ne (by omega)))
    have HX4 := Lib.hid (HX3.out.kp hkp (oneP_ne (by omega)))
    clear hpc hkp HN2 x0 x1
    have x0 := HX4.out.cell 0
    have x1 := HX4.out.cell 1
    have xf := HX4.out.frz 1
    have r0 := HC34.out.cell 0
    have r1 := HC34.out.cell 1
    have rf0 := HC34.out.frz 0
    have rf1 := HC34.out.frz 1
    simp only [List.getElem?_cons_zero, List.getElem?_cons_succ] at x0 x1 r0 r1
    have hlX : X < w4.heap.size := HX4.out.lt
    have hl2 : n0 + 1 + 1 < w4.heap.size := HC34.out.lt
    go_wp2_with fail
    refine bodyPost_ret (results_cell_row rfl _ _ (n0 + 1 + 1) 152 #[.int .i64 x, .int .i64 y] (0, 0) _ rfl ?_ Tryz.underlying152 rfl (by kernel_rfl)) rfl ?_
    · exact (((HC34.out.other (a := ⟨X, 1, none⟩) hnX (.int .i64 y)).set 0 (.int .i64 x)).set 1 (.int .i64 y))
    · refine ⟨by rw [HV.out], by rw [HV.out]; exact ((HP4.out.other (a := ⟨X, 1, none⟩) (by show X ≠ b; omega) _).other (a := ⟨n0 + 1 + 1, 0, none⟩) (by show n0 + 1 + 1 ≠ b; omega) _).other (a := ⟨n0 + 1 + 1, 1, none⟩) (by show n0 + 1 + 1 ≠ b; omega) _, ((HK4.out.setN (p := ⟨X, 1, none⟩) (by show w.heap.size ≤ X; rw [HN0.out]; omega) _).setN (p := ⟨n0 + 1 + 1, 0, none⟩) (by show w.heap.size ≤ n0 + 1 + 1; rw [HN0.out]; omega) _).setN (p := ⟨n0 + 1 + 1, 1, none⟩) (by show w.heap.size ≤ n0 + 1 + 1; rw [HN0.out]; omega) _⟩
  | false =>
    rw [if_neg (by simp)] at HV
    have x0 := HX3.out.cell 0
    have x1 := HX3.out.cell 1
    have r0 := HC33.out.cell 0
    have r1 := HC33.out.cell 1
    have rf0 := HC33.out.frz 0
    have rf1 := HC33.out.frz 1
    simp only [List.getElem?_cons_zero, List.getElem?_cons_succ] at x0 x1 r0 r1
    have hlX : X < w3.heap.size := HX3.out.lt
    have hl2 : n0 + 1 + 1 < w3.heap.size := HC33.out.lt
    go_wp2_with fail
    refine bodyPost_ret (results_cell_row rfl _ _ (n0 + 1 + 1) 152 #[.int .i64 x, .int .i64 x] (0, 0) _ rfl ?_ Tryz.underlying152 rfl (by kernel_rfl)) rfl ?_
    · exact ((HC33.out.set 0 (.int .i64 x)).set 1 (.int .i64 x))
    · refine ⟨by rw [HV.out], by rw [HV.out]; exact (HP3.out.other (a := ⟨n0 + 1 + 1, 0, none⟩) (by show n0 + 1 + 1 ≠ b; omega) _).other (a := ⟨n0 + 1 + 1, 1, none⟩) (by show n0 + 1 + 1 ≠ b; omega) _, (HK3.out.setN (p := ⟨n0 + 1 + 1, 0, none⟩) (by show w.heap.size ≤ n0 + 1 + 1; rw [HN0.out]; omega) _).setN (p := ⟨n0 + 1 + 1, 1, none⟩) (by show w.heap.size ≤ n0 + 1 + 1; rw [HN0.out]; omega) _⟩
end Go.Proofs.YtmleeodfmmpdgaaGreatDoor
/- A region that draws its order and whose last store may hit what it loads: a condition on the world that asks which operations have come up. -/
namespace Go.Proofs.YtmleeodfmmpdgaaGreatDoor
open Go.RowKit

section
variable {P : Program} {ops : Array Oper} {Q : Exit → Act → World → Prop} {md : Region.Mode} {S : Array Bool → World → Prop}

/-- whatever order is picked from here on; behind each operation the condition holds of what has come up by then -/
def wpAnyG (P : Program) (md : Region.Mode) (ops : Array Oper) (Q : Exit → Act → World → Prop) (S : Array Bool → World → Prop) : Nat → Array Bool → Act → World → Prop
  | 0, L, a, w => Region.ready md ops L = [] ∧ Q .normal a w
  | g + 1, L, a, w => (Region.ready md ops L = [] → Q .normal a w) ∧ ∀ i ∈ Region.ready md ops L, wpOp P ops Q i (fun a' w' => S (L.setIfInBounds i true) w' ∧ wpAnyG P md ops Q S g (L.setIfInBounds i true) a' w') a w
theorem wpAny_of_G : ∀ (g : Nat) (L : Array Bool) (a : Act) (w : World), wpAnyG P md ops Q S g L a w → wpAny P md ops Q g L a w
  | 0, _, _, _, h => h
  | g + 1, _, _, _, h => ⟨h.1, fun i hi => wpOp_mono (fun a' w' h' => wpAny_of_G g _ a' w' h'.2) (h.2 i hi)⟩
/-- a condition that is asked until number k has come up -/
def Until (k : Nat) (S : World → Prop) (L : Array Bool) (w : World) : Prop := L.getD k true = false → S w
/-- number k waits for number i -/
def waitsB (md : Region.Mode) (ops : Array Oper) (k i : Nat) : Bool := match ops[k]? with | some o => o.after.any fun e => Region.binds md e && e.on == i | none => false
theorem wpAnyG_first {k i : Nat} {oi : Oper} {v : Value} {S : World → Prop} (hi : ops[i]? = some oi) (hsel : ∀ (j : Nat) (o : Oper) cs b, ops[j]? = some o → o.op ≠ .select cs b)
    (hQ : ∀ c a w, Q (.panic c) (a.put oi.dst v) w → Q (.panic c) a w) (hki : i ≠ k) (hw : waitsB md ops k i = true) :
    ∀ (g : Nat) (L : Array Bool) (a : Act) (w : World),
      (∀ j oj, ops[j]? = some oj → j ≠ i → L.getD j true = false → (∀ e ∈ oj.after, Region.binds md e = true → e.on ≠ i) → oi.apart ops oj = true) →
      i ∈ Region.ready md ops L → YieldsIf P ops S oi v a → L.getD k true = false → S w →
      wpAnyG P md ops Q (Until k S) g (L.setIfInBounds i true) (a.put oi.dst v) w → wpAnyG P md ops Q (Until k S) (g + 1) L a w := by
  intro g
  induction g with
  | zero =>
    intro L a w _ hr hy _ hS H
    refine ⟨fun h => (by rw [h] at hr; cases hr), fun j hj => ?_⟩
    by_cases hji : j = i
    · subst hji; exact hy.wpOp hi hS ⟨fun _ => hS, H⟩
    · have := ready_mono hj hji
      rw [H.1] at this
      cases this
  | succ g ih =>
    intro L a w hfree hr hy hkL hS H
    refine ⟨fun h => (by rw [h] at hr; cases hr), fun j hj => ?_⟩
    by_cases hji : j = i
    · subst hji; exact hy.wpOp hi hS ⟨fun _ => hS, H⟩
    · have h1 := H.2 j (ready_mono hj hji)
      obtain ⟨hjun, oj, hoj, hall⟩ := mem_ready.1 hj
      have hun := (mem_ready.1 hr).1
      have hnot : ∀ e ∈ oj.after, Region.binds md e = true → e.on ≠ i := fun e he hb heq => by
        have h1 := hall e he hb
        rw [heq] at h1
        rcases Nat.lt_or_ge i L.size with h' | h'
        · simp [h'] at hun h1; rw [hun] at h1; cases h1
        · simp [Array.getElem?_eq_none h'] at h1
      have hjk : j ≠ k := fun e => by
        subst e
        unfold waitsB at hw
        rw [hoj] at hw
        simp only [Array.any_eq_true, Bool.and_eq_true, beq_iff_eq] at hw
        obtain ⟨x, hx, hb, ho⟩ := hw
        exact hnot _ (Array.getElem_mem hx) hb ho
      have hkL' : (L.setIfInBounds j true).getD k true = false := by rw [getD_set_ne true hjk]; exact hkL
      have hkL2 : ((L.setIfInBounds i true).setIfInBounds j true).getD k true = false := by rw [getD_set_ne true hjk, getD_set_ne true hki]; exact hkL
      have h2 := wpOp_putIf hoj (hfree j oj hoj hji hjun hnot) (fun cs b => hsel i oi cs b hi) (fun cs b => hsel j oj cs b hoj) hQ hy h1
      have hfree' : ∀ m ok, ops[m]? = some ok → m ≠ i → (L.setIfInBounds j true).getD m true = false →
          (∀ e ∈ ok.after, Region.binds md e = true → e.on ≠ i) → oi.apart ops ok = true := fun m ok hm hmi hun hno => by
        refine hfree m ok hm hmi ?_ hno
        by_cases hjm : j = m
        · subst hjm; exact hjun
        · rw [getD_set_ne true hjm] at hun; exact hun
      refine wpOp_mono (fun a' w' h3 => ?_) h2
      have hS' : S w' := h3.2.1 hkL2
      refine ⟨fun _ => hS', ih (L.setIfInBounds j true) a' w' hfree' (ready_mono hr (Ne.symm hji)) h3.1 hkL' hS' ?_⟩
      rw [Array.setIfInBounds_comm _ _ hji]
      exact h3.2.2
/-- number i is taken first -/
theorem wpAnyG_take {k i : Nat} {oi : Oper} {v : Value} {g : Nat} {L : Array Bool} {a : Act} {w : World} {S : World → Prop} (hi : ops[i]? = some oi)
    (hs : Region.noSelect ops = true) (hf : Region.free md ops L i = true) (hr : (Region.ready md ops L).contains i = true)
    (hQ : ∀ c a w, Q (.panic c) (a.put oi.dst v) w → Q (.panic c) a w) (hw : waitsB md ops k i = true) (hki : i ≠ k) (hk : L.getD k true = false) (hy : YieldsIf P ops S oi v a) (hS : S w)
    (h : wpAnyG P md ops Q (Until k S) g (L.setIfInBounds i true) (a.put oi.dst v) w) : wpAnyG P md ops Q (Until k S) (g + 1) L a w :=
  wpAnyG_first hi (Region.noSelect_spec hs) hQ hki hw g L a w (Region.free_spec hi hf) (by simpa using hr) hy hk hS h
/-- each of the operations rs comes up next -/
def AllReadyG (P : Program) (md : Region.Mode) (ops : Array Oper) (Q : Exit → Act → World → Prop) (S : Array Bool → World → Prop) (g : Nat) (L : Array Bool) (a : Act) (w : World) (rs : List Nat) : Prop :=
  ∀ i ∈ rs, wpOp P ops Q i (fun a' w' => S (L.setIfInBounds i true) w' ∧ wpAnyG P md ops Q S g (L.setIfInBounds i true) a' w') a w
theorem AllReadyG.nil {g : Nat} {L : Array Bool} {a : Act} {w : World} : AllReadyG P md ops Q S g L a w [] := fun _ h => by cases h
theorem AllReadyG.cons {g : Nat} {L : Array Bool} {a : Act} {w : World} {i : Nat} {o : Oper} {rs : List Nat} (ho : ops[i]? = some o)
    (h : ∀ K' : Act → World → Prop, Shut (∀ a w, S (L.setIfInBounds i true) w → (S (L.setIfInBounds i true) w → wpAnyG P md ops Q S g (L.setIfInBounds i true) a w) → K' a w) → if Region.wanted o (yielded ops a.tmps) = true then Oper.wp P o a w K' Q else K' (a.put o.dst undef) w)
    (hs : AllReadyG P md ops Q S g L a w rs) : AllReadyG P md ops Q S g L a w (i :: rs) := fun j hj => by
  rcases List.mem_cons.1 hj with rfl | hj
  · exact wpOp_step ho (fun K' hK => h K' (fun a w hS hW => hK a w ⟨hS, hW hS⟩))
  · exact hs j hj
theorem wpAnyG_ready {rs : List Nat} {g : Nat} {L : Array Bool} {a : Act} {w : World} (hr : Region.ready md ops L = rs) (hne : rs ≠ [])
    (h : AllReadyG P md ops Q S g L a w rs) : wpAnyG P md ops Q S (g + 1) L a w := ⟨fun h0 => absurd (hr ▸ h0) hne, hr ▸ h⟩
theorem wpAnyG_done {L : Array Bool} {a : Act} {w : World} (hr : Region.ready md ops L = []) (h : Q .normal a w) : ∀ g, wpAnyG P md ops Q S g L a w
  | 0 => ⟨hr, h⟩
  | _ + 1 => ⟨fun _ => h, by rw [hr]; simp⟩
/-- the beginning -/
theorem wp_region_until {id : Nat} {a : Act} {w : World} (k : Nat) (S : World → Prop) (hm : P.follows .mixedOrders = true) (hS : S w.drew)
    (h : S w.drew → wpAnyG P .any ops Q (Until k S) ops.size (Array.replicate ops.size false) a w.drew) : (Code.region id ops true).wp P Q a w :=
  wp_region_any hm (wpAny_of_G _ _ _ _ (h hS))
end
end Go.Proofs.YtmleeodfmmpdgaaGreatDoor
