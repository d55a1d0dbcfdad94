/- Plain: the values of rounded numbers. -/
import Derived.Test.YtnnidhjmakpaeaaGreatDoorP8
namespace Go.Proofs.YtnnidhjmakpaeaaGreatDoor

/-- m rounded to whole units u, half a unit upwards -/
def rnd (u m : Nat) : Nat := (m + u / 2) / u * u
theorem rnd_mono {u a b : Nat} (h : a ≤ b) : rnd u a ≤ rnd u b := Nat.mul_le_mul_right _ (Nat.div_le_div_right (by omega))
theorem rnd_near {u m : Nat} (hu : 0 < u) : 2 * rnd u m ≤ 2 * m + u ∧ 2 * m ≤ 2 * rnd u m + u := by
  unfold rnd
  have h1 := Nat.div_add_mod (m + u / 2) u
  have h2 := Nat.mod_lt (m + u / 2) hu
  rw [Nat.mul_comm] at h1
  generalize (m + u / 2) / u * u = x at *
  omega
theorem rnd_of {u k : Nat} (hu : 0 < u) : rnd u (k * u) = k * u := by
  unfold rnd
  rw [Nat.add_comm, Nat.add_mul_div_right _ _ hu, Nat.div_eq_of_lt (Nat.div_lt_self hu (by omega)), Nat.zero_add]

theorem roundA_val {W F : List UInt8} {n : Nat} (hW : allD W = true) (hF : allD F = true) (hn : n < F.length) :
    valD (roundA W F n) = (valD (W ++ F) + 10 ^ (F.length - n) / 2) / 10 ^ (F.length - n) := by
  have hsplit : F = F.take n ++ (F[n] :: F.drop (n + 1)) := by rw [List.getElem_cons_drop, List.take_append_drop]
  have hdl : (F.drop (n + 1)).length = F.length - n - 1 := by rw [List.length_drop]; omega
  have hd1 : allD (F.drop (n + 1)) = true := by
    unfold allD at hF ⊢; rw [List.all_eq_true] at hF ⊢; exact fun c hc => hF c ((List.drop_sublist _ _).subset hc)
  have ht1 : allD (F.take n) = true := by
    unfold allD at hF ⊢; rw [List.all_eq_true] at hF ⊢; exact fun c hc => hF c ((List.take_sublist _ _).subset hc)
  have hc := (isD_iff F[n]).1 (by unfold allD at hF; exact List.all_eq_true.1 hF _ (List.getElem_mem hn))
  have hlt := valD_lt _ hd1
  rw [hdl] at hlt
  have hp : 10 ^ (F.length - n) = 10 * 10 ^ (F.length - n - 1) := by
    obtain ⟨k, hk⟩ : ∃ k, F.length - n = k + 1 := ⟨F.length - n - 1, by omega⟩
    rw [hk, Nat.add_sub_cancel, Nat.pow_succ, Nat.mul_comm]
  have hv : valD (W ++ F) = valD (W ++ F.take n) * 10 ^ (F.length - n) + ((F[n].toNat - 48) * 10 ^ (F.length - n - 1) + valD (F.drop (n + 1))) := by
    conv => lhs; rw [hsplit, ← List.append_assoc, valD_append, valD_cons, hdl, List.length_cons, hdl]
    rw [show F.length - n - 1 + 1 = F.length - n by omega]
  have hq := pow_pos10 (F.length - n - 1)
  rw [hv, hp]
  unfold roundA
  rw [List.getElem?_eq_getElem hn, Option.getD_some]
  generalize hX : W ++ F.take n = X at *
  have hXd : allD X = true := by rw [← hX, allD_append, hW, ht1]; rfl
  generalize valD (F.drop (n + 1)) = r at *
  generalize 10 ^ (F.length - n - 1) = q at *
  have h5q : 10 * q / 2 = 5 * q := by omega
  have h10 : 0 < 10 * q := by omega
  rw [h5q]
  have hge : F[n] ≥ 53 ↔ 53 ≤ F[n].toNat := by
    rw [ge_iff_le, UInt8.le_iff_toNat_le]; rfl
  generalize F[n].toNat = d at *
  by_cases h53 : 53 ≤ d
  · rw [if_pos (hge.2 h53), valD_inc hXd]
    have e1 : (d - 48) * q = 5 * q + (d - 53) * q := by rw [← Nat.add_mul]; congr 1; omega
    have e2 : (d - 53) * q ≤ 4 * q := Nat.mul_le_mul_right _ (by omega)
    have e3 : valD X * (10 * q) + ((d - 48) * q + r) + 5 * q = ((d - 53) * q + r) + (valD X + 1) * (10 * q) := by
      rw [Nat.add_mul, e1]; omega
    rw [e3, Nat.add_mul_div_right _ _ h10, Nat.div_eq_of_lt (by omega), Nat.zero_add]
  · rw [if_neg (fun h => h53 (hge.1 h))]
    have e2 : (d - 48) * q ≤ 4 * q := Nat.mul_le_mul_right _ (by omega)
    have e3 : valD X * (10 * q) + ((d - 48) * q + r) + 5 * q = ((d - 48) * q + r + 5 * q) + valD X * (10 * q) := by omega
    rw [e3, Nat.add_mul_div_right _ _ h10, Nat.div_eq_of_lt (by omega), Nat.zero_add]

theorem roundA_allD {W F : List UInt8} {n : Nat} (hW : allD W = true) (hF : allD F = true) : allD (roundA W F n) = true := by
  have hd : allD (W ++ F.take n) = true := by
    rw [allD_append, hW]
    unfold allD at hF ⊢; rw [List.all_eq_true] at hF
    rw [Bool.true_and, List.all_eq_true]; exact fun c hc => hF c ((List.take_sublist _ _).subset hc)
  unfold roundA
  split
  · exact incD_digits hd
  · exact hd

theorem okW_of_lead {w : List UInt8} (hd : allD w = true) (h1 : 1 ≤ w.length) (h15 : w.length ≤ 15) (hl : leadD w = w) : okW w = true := by
  unfold okW
  rw [hd, decide_eq_true h1, decide_eq_true h15]
  cases w with
  | nil => simp at h1
  | cons c w =>
    cases w with
    | nil => rfl
    | cons d r =>
      have hc : c ≠ 48 := by
        intro e
        rw [e, leadD, if_pos rfl] at hl
        have := leadD_len (d :: r)
        rw [hl] at this
        simp only [List.length_cons] at this
        omega
      simp [hc]

theorem round_val {l : List UInt8} (h : dOk l = true) {n : Nat} (hn : n ≤ 6) : roundD l (n : Int) = ([], 2) ∨ ((roundD l (n : Int)).2 = 0 ∧ dOk (roundD l (n : Int)).1 = true ∧
    (dFrac (roundD l (n : Int)).1).length = n ∧ mv (roundD l (n : Int)).1 = (if dNeg l then -((rnd (10 ^ (6 - n)) (mag l) : Nat) : Int) else ((rnd (10 ^ (6 - n)) (mag l) : Nat) : Int))) := by
  obtain ⟨h1, h2, _⟩ := dOk_parts h
  obtain ⟨_, h4, h5⟩ := okF_parts h2
  have hu := pow_pos10 (6 - n)
  unfold roundD
  rw [if_neg (by rw [h]; simp), if_neg (by omega)]
  by_cases hf : ((dFrac l).length : Int) ≤ (n : Int)
  · rw [if_pos hf]
    have ht : ((n : Int) - ((dFrac l).length : Int)).toNat = n - (dFrac l).length := by omega
    rw [ht]
    rcases permD_cases (dNeg l) (dWhole l) (dFrac l ++ List.replicate (n - (dFrac l).length) 48) with h6 | ⟨_, h7, h8⟩
    · exact .inl h6
    · rw [h8]
      have hlen : (dFrac l ++ List.replicate (n - (dFrac l).length) (48 : UInt8)).length = n := by rw [List.length_append, List.length_replicate]; omega
      refine .inr ⟨rfl, text_ok h1 (by rw [allD_append, h5]; simp [allD, isD]) h7, by rw [text_frac h1]; exact hlen, ?_⟩
      show mv (textD _ _ _) = _
      rw [mv_text h1]
      have hm : magW (dWhole l) (dFrac l ++ List.replicate (n - (dFrac l).length) 48) = rnd (10 ^ (6 - n)) (mag l) := by
        have e : mag l = (valD (dWhole l ++ dFrac l) * 10 ^ (n - (dFrac l).length)) * 10 ^ (6 - n) := by
          unfold mag
          rw [magW_eq h4, Nat.mul_assoc, ← Nat.pow_add, show n - (dFrac l).length + (6 - n) = 6 - (dFrac l).length by omega]
        rw [e, rnd_of hu, magW_eq h7, hlen, ← List.append_assoc, valD_pad]
      rw [hm]
  · rw [if_neg hf, Int.toNat_natCast]
    have hlt : n < (dFrac l).length := by omega
    obtain ⟨hc1, hc2, _⟩ : (roundA (dWhole l) (dFrac l) n).length - n ≤ (roundA (dWhole l) (dFrac l) n).length ∧ (dWhole l).length + n ≤ (roundA (dWhole l) (dFrac l) n).length ∧ True := by
      have g1 : (dWhole l ++ (dFrac l).take n).length = (dWhole l).length + n := by rw [List.length_append, List.length_take, Nat.min_eq_left (by omega)]
      have g2 := incD_len (dWhole l ++ (dFrac l).take n)
      unfold roundA
      split <;> exact ⟨by omega, by omega, trivial⟩
    have hdA := roundA_allD (n := n) (okW_allD h1) h5
    have hpl := okW_pos h1
    have hld := lead_round h1 h5 hlt
    have hv := roundA_val (okW_allD h1) h5 hlt
    generalize roundA (dWhole l) (dFrac l) n = A at *
    rcases permD_cases (dNeg l) (A.take (A.length - n)) (A.drop (A.length - n)) with h6 | ⟨h6, h7, h8⟩
    · exact .inl h6
    · rw [h8]
      have hdt : allD (A.take (A.length - n)) = true := by
        unfold allD at hdA ⊢; rw [List.all_eq_true] at hdA ⊢; exact fun c hc => hdA c ((List.take_sublist _ _).subset hc)
      have hdd : allD (A.drop (A.length - n)) = true := by
        unfold allD at hdA ⊢; rw [List.all_eq_true] at hdA ⊢; exact fun c hc => hdA c ((List.drop_sublist _ _).subset hc)
      have hlen : (A.drop (A.length - n)).length = n := by rw [List.length_drop]; omega
      have hok : okW (A.take (A.length - n)) = true := okW_of_lead hdt (by rw [List.length_take]; omega) h6 hld
      refine .inr ⟨rfl, text_ok hok hdd h7, by rw [text_frac hok]; exact hlen, ?_⟩
      show mv (textD _ _ _) = _
      rw [mv_text hok]
      have hm : magW (A.take (A.length - n)) (A.drop (A.length - n)) = rnd (10 ^ (6 - n)) (mag l) := by
        rw [magW_eq h7, hlen, List.take_append_drop, hv]
        unfold mag rnd
        rw [magW_eq h4]
        congr 1
        obtain ⟨k, hk⟩ : ∃ k, (dFrac l).length - n = k + 1 := ⟨(dFrac l).length - n - 1, by omega⟩
        have hu2 : 10 ^ (6 - n) = 10 ^ ((dFrac l).length - n) * 10 ^ (6 - (dFrac l).length) := by
          rw [← Nat.pow_add, show (dFrac l).length - n + (6 - (dFrac l).length) = 6 - n by omega]
        rw [hu2, hk, Nat.pow_succ]
        have hq2 := pow_pos10 (6 - (dFrac l).length)
        generalize 10 ^ (6 - (dFrac l).length) = q2 at *
        generalize 10 ^ k = q at *
        generalize valD (dWhole l ++ dFrac l) = M
        have e1 : q * 10 / 2 = q * 5 := by omega
        have e2 : q * 10 * q2 / 2 = q * 5 * q2 := by
          rw [show q * 10 * q2 = (q * 5 * q2) * 2 by rw [Nat.mul_assoc, Nat.mul_assoc, Nat.mul_assoc]; congr 1; omega]
          exact Nat.mul_div_cancel _ (by omega)
        rw [e1, e2, ← Nat.add_mul, Nat.mul_div_mul_right _ _ hq2]
      rw [hm]

/-- rounding again changes nothing -/
theorem round_again {l : List UInt8} (h : dOk l = true) {n : Nat} (hn : n ≤ 6) (hf : (dFrac l).length = n) : roundD l (n : Int) = (l, 0) := by
  unfold roundD
  rw [if_neg (by rw [h]; simp), if_neg (by omega), if_pos (by omega), show ((n : Int) - ((dFrac l).length : Int)).toNat = 0 by omega, List.replicate_zero, List.append_nil]
  have h1 := okW_len (dOk_parts h).1
  have h4 := dOk_F h
  rcases permD_cases (dNeg l) (dWhole l) (dFrac l) with h5 | ⟨_, _, h5⟩
  · unfold permD at h5
    rw [if_neg (by omega)] at h5
    exact absurd (congrArg Prod.snd h5) (show ¬ ((0 : Nat) = 2) by decide)
  · rw [h5, text_self h]
/-- rounding does not reverse the order -/
theorem round_order {a b : List UInt8} {u : Nat} (h : mv a ≤ mv b) :
    (if dNeg a then -((rnd u (mag a) : Nat) : Int) else ((rnd u (mag a) : Nat) : Int)) ≤ (if dNeg b then -((rnd u (mag b) : Nat) : Int) else ((rnd u (mag b) : Nat) : Int)) := by
  unfold mv at h
  cases h1 : dNeg a <;> cases h2 : dNeg b <;> rw [h1, h2] at h <;> simp only [if_true, Bool.false_eq_true, if_false] at h ⊢
  · have := rnd_mono (u := u) (a := mag a) (b := mag b) (by omega); omega
  · have e1 : mag a = 0 := by omega
    have e2 : mag b = 0 := by omega
    rw [e1, e2]
    have : rnd u 0 = 0 := by
      unfold rnd
      rcases Nat.eq_zero_or_pos u with h | h
      · subst h; rfl
      · rw [Nat.zero_add, Nat.div_eq_of_lt (Nat.div_lt_self h (by omega)), Nat.zero_mul]
    omega
  · omega
  · have := rnd_mono (u := u) (a := mag b) (b := mag a) (by omega); omega

theorem cmp_mul_pos {a b : Int} {p : Nat} (hp : 0 < p) : cmpI (a * (p : Int)) (b * (p : Int)) = cmpI a b := by
  have h1 : a * (p : Int) < b * (p : Int) ↔ a < b := ⟨fun h => Int.lt_of_mul_lt_mul_right h (by omega), fun h => Int.mul_lt_mul_of_pos_right h (by omega)⟩
  have h2 : a * (p : Int) = b * (p : Int) ↔ a = b := ⟨fun h => Int.eq_of_mul_eq_mul_right (by omega) h, fun h => by rw [h]⟩
  unfold cmpI
  simp only [h1, h2]
/-- shifting keeps the order -/
theorem shift_order {a b : List UInt8} (ha : dOk a = true) (hb : dOk b = true) {n : Int} (h1 : (shiftD a n).2 = 0) (h2 : (shiftD b n).2 = 0) :
    cmpI (mv (shiftD a n).1) (mv (shiftD b n).1) = cmpI (mv a) (mv b) := by
  rcases shift_val ha n with h3 | ⟨_, _, h4, h5⟩
  · rw [h3] at h1; cases h1
  rcases shift_val hb n with h6 | ⟨_, _, h7, h8⟩
  · rw [h6] at h2; cases h2
  by_cases hn : 0 ≤ n
  · rw [h4 hn, h7 hn, cmp_mul_pos (pow_pos10 _)]
  · rw [← h5 (by omega), ← h8 (by omega), cmp_mul_pos (pow_pos10 _)]
/-- there and back -/
theorem shift_back {l : List UInt8} (h : dOk l = true) {n : Int} (h1 : (shiftD l n).2 = 0) (h2 : (shiftD (shiftD l n).1 (-n)).2 = 0) :
    mv (shiftD (shiftD l n).1 (-n)).1 = mv l := by
  rcases shift_val h n with h3 | ⟨_, hd, h4, h5⟩
  · rw [h3] at h1; cases h1
  rcases shift_val hd (-n) with h6 | ⟨_, _, h7, h8⟩
  · rw [h6] at h2; cases h2
  rcases Int.lt_trichotomy n 0 with hn | hn | hn
  · rw [h7 (by omega), h5 hn]
  · subst hn
    have e1 := h4 (by omega)
    have e2 := h7 (by omega)
    rw [e2, e1]
    simp
  · have e := h8 (by omega)
    rw [h4 (by omega), show (- -n).toNat = n.toNat by omega] at e
    exact Int.eq_of_mul_eq_mul_right (by have := pow_pos10 n.toNat; omega) e
end Go.Proofs.YtnnidhjmakpaeaaGreatDoor
