/- Plain: the values of normal, shifted and rounded numbers. -/
import Derived.Test.YtnnidhjmakpaeaaGreatDoorP7
namespace Go.Proofs.YtnnidhjmakpaeaaGreatDoor

theorem digits_inj : ∀ {a b : List UInt8}, a.length = b.length → allD a = true → allD b = true → valD a = valD b → a = b
  | [], [], _, _, _, _ => rfl
  | [], _ :: _, h, _, _, _ => by simp at h
  | _ :: _, [], h, _, _, _ => by simp at h
  | c :: a, d :: b, h, ha, hb, hv => by
    simp only [allD, List.all_cons, Bool.and_eq_true] at ha hb
    have hl : a.length = b.length := by simpa using h
    have h1 := valD_lt a ha.2
    have h2 := valD_lt b hb.2
    have hc := (isD_iff c).1 ha.1
    have hd := (isD_iff d).1 hb.1
    rw [valD_cons, valD_cons, ← hl] at hv
    rw [← hl] at h2
    have e : c.toNat = d.toNat := by
      rcases Nat.lt_trichotomy c.toNat d.toNat with h3 | h3 | h3
      · have h4 : (c.toNat - 48 + 1) * 10 ^ a.length ≤ (d.toNat - 48) * 10 ^ a.length := Nat.mul_le_mul_right _ (by omega)
        rw [Nat.add_mul, Nat.one_mul] at h4; omega
      · exact h3
      · have h4 : (d.toNat - 48 + 1) * 10 ^ a.length ≤ (c.toNat - 48) * 10 ^ a.length := Nat.mul_le_mul_right _ (by omega)
        rw [Nat.add_mul, Nat.one_mul] at h4; omega
    rw [UInt8.toNat_inj.1 e] at hv ⊢
    rw [digits_inj hl ha.2 hb.2 (by omega)]

theorem trimZ_pad (l : List UInt8) (k : Nat) : trimZ (l ++ List.replicate k 48) = trimZ l := by
  induction k with
  | zero => rw [List.replicate_zero, List.append_nil]
  | succ k ih => rw [List.replicate_succ', ← List.append_assoc, trimZ_snoc, if_pos rfl, ih]
theorem trimZ_trim (l : List UInt8) : trimZ (trimZ l) = trimZ l := by
  obtain ⟨k, hk⟩ := trimZ_prefix l
  conv => rhs; rw [hk]
  rw [trimZ_pad]
theorem pad6_trim {f : List UInt8} (h6 : f.length ≤ 6) : valD (pad6 (trimZ f)) = valD (pad6 f) := by
  obtain ⟨k, hk⟩ := trimZ_prefix f
  have hl := congrArg List.length hk
  rw [List.length_append, List.length_replicate] at hl
  rw [pad6_eq, pad6_eq]
  conv => rhs; rw [hk]
  rw [valD_pad, Nat.mul_assoc, ← Nat.pow_add, List.length_append, List.length_replicate]
  rw [show k + (6 - ((trimZ f).length + k)) = 6 - (trimZ f).length by omega]
theorem allZ_trim (f : List UInt8) : allZ (trimZ f) = allZ f := by
  obtain ⟨k, hk⟩ := trimZ_prefix f
  conv => rhs; rw [hk]
  rw [allZ_append]; simp [allZ]

section
variable {l : List UInt8} (h : dOk l = true)
include h
theorem norm_ok : dOk (normD l).1 = true ∧ (normD l).2 = 0 := by
  rw [normD_yes h]
  have := trimZ_len (dFrac l)
  have hf := dOk_F h
  exact ⟨text_ok (dOk_parts h).1 (trimZ_allD hf.2) (by omega), rfl⟩
theorem norm_whole : dWhole (normD l).1 = dWhole l := by rw [normD_yes h]; exact text_whole (dOk_parts h).1
theorem norm_frac : dFrac (normD l).1 = trimZ (dFrac l) := by rw [normD_yes h]; exact text_frac (dOk_parts h).1
theorem norm_neg : dNeg (normD l).1 = dNeg l := by
  rw [normD_yes h]
  show dNeg (textD (dNeg l) (dWhole l) (trimZ (dFrac l))) = _
  rw [text_neg (dOk_parts h).1, allZ_trim]
  have := (dOk_parts h).2.2
  cases hn : dNeg l
  · rfl
  · rw [hn, Bool.true_and] at this; rw [this]; rfl
theorem norm_again : normD (normD l).1 = normD l := by
  rw [normD_yes (norm_ok h).1, norm_whole h, norm_frac h, norm_neg h, trimZ_trim, normD_yes h]
theorem norm_mv : mv (normD l).1 = mv l := by
  unfold mv mag magW
  rw [norm_neg h, norm_whole h, norm_frac h, pad6_trim (dOk_F h).1]
theorem norm_v : opV (normD l).1 3 = ((trimZ (dFrac l)).length, 0) := by
  unfold opV
  rw [if_neg (by rw [(norm_ok h).1]; simp), if_neg (by decide), if_neg (by decide), if_pos rfl, norm_frac h]
theorem norm_f : opV (normD l).1 5 = (valD (trimZ (dFrac l)), 0) := by
  unfold opV
  rw [if_neg (by rw [(norm_ok h).1]; simp), if_neg (by decide), if_neg (by decide), if_neg (by decide), if_neg (by decide), if_pos rfl, norm_frac h]
theorem op_w : opV l 4 = ((trimZ (dFrac l)).length, 0) := by
  unfold opV
  rw [if_neg (by rw [h]; simp), if_neg (by decide), if_neg (by decide), if_neg (by decide), if_pos rfl]
theorem op_t : opV l 6 = (valD (trimZ (dFrac l)), 0) := by
  unfold opV
  rw [if_neg (by rw [h]; simp), if_neg (by decide), if_neg (by decide), if_neg (by decide), if_neg (by decide), if_neg (by decide), if_pos rfl]
theorem op_v : opV l 3 = ((dFrac l).length, 0) := by
  unfold opV
  rw [if_neg (by rw [h]; simp), if_neg (by decide), if_neg (by decide), if_pos rfl]
end

theorem pad6_trimZ (f : List UInt8) : trimZ (pad6 f) = trimZ f := trimZ_pad f _
theorem pad6_len {f : List UInt8} (h6 : f.length ≤ 6) : (pad6 f).length = 6 := by unfold pad6; rw [List.length_append, List.length_replicate]; omega
theorem pad6_allD {f : List UInt8} (hf : allD f = true) : allD (pad6 f) = true := by unfold pad6; rw [allD_append, hf]; simp [allD, isD]

theorem norm_inj {l m : List UInt8} (hl : dOk l = true) (hm : dOk m = true) : mv l = mv m ↔ (normD l).1 = (normD m).1 := by
  constructor
  · intro h
    have hfl := dOk_F hl
    have hfm := dOk_F hm
    have hn : dNeg l = dNeg m ∧ mag l = mag m := by
      unfold mv at h
      cases h1 : dNeg l <;> cases h2 : dNeg m <;> rw [h1, h2] at h <;> simp only [if_true, Bool.false_eq_true, if_false] at h
      · exact ⟨rfl, by omega⟩
      · have := neg_pos hm h2; omega
      · have := neg_pos hl h1; omega
      · exact ⟨rfl, by omega⟩
    obtain ⟨h1, h2⟩ := hn
    have p1 := pad6_lt hfl.2 hfl.1
    have p2 := pad6_lt hfm.2 hfm.1
    unfold mag magW at h2
    have hw : dWhole l = dWhole m := by
      have hwl := (dOk_parts hl).1
      have hwm := (dOk_parts hm).1
      have hv : valD (dWhole l) = valD (dWhole m) := by omega
      refine digits_inj ?_ (okW_allD hwl) (okW_allD hwm) hv
      rcases Nat.lt_trichotomy (dWhole l).length (dWhole m).length with h3 | h3 | h3
      · have := okW_less hwl hwm h3; omega
      · exact h3
      · have := okW_less hwm hwl h3; omega
    have hp : pad6 (dFrac l) = pad6 (dFrac m) := digits_inj (by rw [pad6_len hfl.1, pad6_len hfm.1]) (pad6_allD hfl.2) (pad6_allD hfm.2) (by omega)
    rw [normD_yes hl, normD_yes hm, h1, hw, ← pad6_trimZ (dFrac l), hp, pad6_trimZ]
  · intro h
    rw [← norm_mv hl, ← norm_mv hm, h]

theorem permD_cases (n : Bool) (a f : List UInt8) : (permD n a f = ([], 2)) ∨ (a.length ≤ 15 ∧ f.length ≤ 6 ∧ permD n a f = (textD n a f, 0)) := by
  unfold permD
  split
  · exact .inl rfl
  · rename_i h
    exact .inr ⟨by omega, by omega, rfl⟩
theorem allD_trimmed {x : List UInt8} (h : allD x = true) : allD (trimmedD x) = true := by
  unfold trimmedD
  split
  · decide
  · unfold allD at h ⊢
    rw [List.all_eq_true] at h ⊢
    exact fun c hc => h c ((List.dropWhile_sublist _).subset hc)
theorem val_trimmed (x : List UInt8) : valD (trimmedD x) = valD x := by
  unfold trimmedD
  have e : x = x.takeWhile ([48].contains ·) ++ Lib.trimLeftS x [48] := (List.takeWhile_append_dropWhile ..).symm
  have hz : allZ (x.takeWhile ([48].contains ·)) = true := by
    unfold allZ
    rw [List.all_eq_true]
    intro c hc
    have := List.all_eq_true.1 List.all_takeWhile c hc
    simpa using this
  have hv : valD x = valD (Lib.trimLeftS x [48]) := by
    conv => lhs; rw [e]
    rw [valD_append, allZ_val hz]; simp
  rw [hv]
  split
  · rename_i hh
    rw [List.isEmpty_iff] at hh
    rw [hh]; rfl
  · rfl
theorem okW_trimmed {x : List UInt8} (h : allD x = true) (h15 : (trimmedD x).length ≤ 15) : okW (trimmedD x) = true := by
  have hd := allD_trimmed h
  unfold okW
  rw [hd, decide_eq_true h15]
  unfold trimmedD at *
  cases ht : Lib.trimLeftS x [48] with
  | nil => rfl
  | cons c r =>
    have hc : c ≠ 48 := by
      have := List.head_dropWhile_not (fun y => [48].contains y) (l := x) (by unfold Lib.trimLeftS at ht; rw [ht]; simp)
      unfold Lib.trimLeftS at ht
      simp only [ht, List.head_cons] at this
      simpa using this
    simp [hc]

theorem magW_any {w f : List UInt8} (h6 : f.length ≤ 6) : magW w f = valD (w ++ f) * 10 ^ (6 - f.length) := magW_eq h6
theorem sh_up {W F : List UInt8} {k : Nat} (hF : F.length ≤ 6) : magW (shW W F (k : Int)) (shF W F (k : Int)) = magW W F * 10 ^ k := by
  have hx : W ++ (F ++ List.replicate k 48).take k ++ F.drop (min k F.length) = W ++ F ++ List.replicate (k - F.length) 48 := by
    rw [List.append_assoc, List.append_assoc]
    congr 1
    rw [List.take_append, List.take_replicate]
    by_cases hk : k ≤ F.length
    · rw [show k - F.length = 0 by omega, Nat.zero_min, List.replicate_zero, List.append_nil, List.append_nil, Nat.min_eq_left hk, List.take_append_drop]
    · rw [List.take_of_length_le (show F.length ≤ k by omega), Nat.min_eq_right (show F.length ≤ k by omega), List.drop_length, List.append_nil, Nat.min_eq_left (show k - F.length ≤ k by omega)]
  have hfl : (F.drop (min k F.length)).length = F.length - min k F.length := List.length_drop ..
  unfold shW shF
  rw [if_pos (by omega), if_pos (by omega), Int.toNat_natCast, magW_eq (by omega), magW_eq hF, valD_append, val_trimmed, ← valD_append, hx, valD_pad, hfl, Nat.mul_assoc, Nat.mul_assoc, ← Nat.pow_add, ← Nat.pow_add]
  rw [show k - F.length + (6 - (F.length - min k F.length)) = 6 - F.length + k by omega]
theorem sh_down {W F : List UInt8} {m : Nat} (hm : 0 < m) (hF : (shF W F (-(m : Int))).length ≤ 6) : magW (shW W F (-(m : Int))) (shF W F (-(m : Int))) * 10 ^ m = magW W F := by
  have e0 : (- -(m : Int)).toNat = m := by omega
  have hfl : (shF W F (-(m : Int))).length = m + F.length := by
    unfold shF
    rw [if_neg (by omega), e0, List.length_append, List.length_drop, List.length_append, List.length_replicate]; omega
  rw [magW_eq hF, hfl, magW_eq (by omega)]
  unfold shW shF
  rw [if_neg (by omega), if_neg (by omega), e0, valD_append, val_trimmed, ← valD_append, ← List.append_assoc, List.take_append_drop, List.append_assoc, valD_append, valD_zeros, Nat.zero_mul, Nat.zero_add,
    Nat.mul_assoc, ← Nat.pow_add, show 6 - (m + F.length) + m = 6 - F.length by omega]
theorem mul_sign (n : Bool) (a p : Nat) : (if n then -((a * p : Nat) : Int) else ((a * p : Nat) : Int)) = (if n then -(a : Int) else (a : Int)) * (p : Int) := by
  cases n
  · simp
  · simp [Int.neg_mul]

theorem shD_allD {W F : List UInt8} (hW : allD W = true) (hF : allD F = true) (c : Int) : allD (shF W F c) = true ∧ ∃ x, allD x = true ∧ shW W F c = trimmedD x := by
  have hz : ∀ k, allD (List.replicate k (48 : UInt8)) = true := fun k => by simp [allD, isD]
  have ht : ∀ {x : List UInt8} k, allD x = true → allD (x.take k) = true := fun k h => by
    unfold allD at h ⊢; rw [List.all_eq_true] at h ⊢; exact fun c hc => h c ((List.take_sublist _ _).subset hc)
  have hd : ∀ {x : List UInt8} k, allD x = true → allD (x.drop k) = true := fun k h => by
    unfold allD at h ⊢; rw [List.all_eq_true] at h ⊢; exact fun c hc => h c ((List.drop_sublist _ _).subset hc)
  unfold shF shW
  split
  · exact ⟨hd _ hF, _, by rw [allD_append, hW, ht _ (by rw [allD_append, hF, hz]; rfl)]; rfl, rfl⟩
  · exact ⟨by rw [allD_append, hF, hd _ (by rw [allD_append, hz, hW]; rfl)]; rfl, _, ht _ (by rw [allD_append, hz, hW]; rfl), rfl⟩

theorem big_zero {x v pl q p p40 : Nat} (hup : v * 1000000 + pl = x * p40) (hv : v < q) (hq : q ≤ p) (hpl : pl < 1000000) (hp : p * 1000000 ≤ p40) : x = 0 := by
  rcases Nat.eq_zero_or_pos x with h | h
  · exact h
  · have h1 : 1 * p40 ≤ x * p40 := Nat.mul_le_mul_right _ h
    omega
theorem pow_21 {k : Nat} (h : 21 ≤ k) : 10 ^ 15 * 1000000 ≤ 10 ^ k := by
  obtain ⟨j, rfl⟩ : ∃ j, k = j + 21 := ⟨k - 21, by omega⟩
  rw [Nat.pow_add]
  have := pow_pos10 j
  omega
/-- what Shift answers, as a value -/
theorem shift_val {l : List UInt8} (h : dOk l = true) (n : Int) : shiftD l n = ([], 2) ∨ ((shiftD l n).2 = 0 ∧ dOk (shiftD l n).1 = true ∧
    (0 ≤ n → mv (shiftD l n).1 = mv l * ((10 ^ n.toNat : Nat) : Int)) ∧ (n < 0 → mv (shiftD l n).1 * ((10 ^ (-n).toNat : Nat) : Int) = mv l)) := by
  obtain ⟨h1, h2, h3⟩ := dOk_parts h
  obtain ⟨_, h4, h5⟩ := okF_parts h2
  obtain ⟨hdf, x, hx, hxe⟩ := shD_allD (okW_allD h1) h5 (max (min n 40) (-40))
  unfold shiftD
  rw [if_neg (by rw [h]; simp)]
  rcases permD_cases (dNeg l) (shW (dWhole l) (dFrac l) (max (min n 40) (-40))) (shF (dWhole l) (dFrac l) (max (min n 40) (-40))) with h6 | ⟨h6, h7, h8⟩
  · exact .inl h6
  · rw [h8]
    have hok : okW (shW (dWhole l) (dFrac l) (max (min n 40) (-40))) = true := by
      rw [hxe] at h6 ⊢
      exact okW_trimmed hx h6
    refine .inr ⟨rfl, text_ok hok hdf h7, ?_, ?_⟩
    · intro hn
      show mv (textD _ _ _) = _
      rw [mv_text hok]
      obtain ⟨k, hk⟩ : ∃ k : Nat, max (min n 40) (-40) = (k : Int) := ⟨(max (min n 40) (-40)).toNat, by omega⟩
      rw [hk, sh_up h4, mul_sign]
      by_cases h40 : n ≤ 40
      · rw [show n.toNat = k by omega]; rfl
      · have hk40 : k = 40 := by omega
        have hz : mag l = 0 := by
          have hlt := valD_lt _ (okW_allD hok)
          have hup : magW (shW (dWhole l) (dFrac l) (k : Int)) (shF (dWhole l) (dFrac l) (k : Int)) = magW (dWhole l) (dFrac l) * 10 ^ k := sh_up h4
          have hpl := pad6_lt hdf h7
          rw [hk] at hlt hpl h6
          exact big_zero hup hlt (Nat.pow_le_pow_right (by omega) h6) hpl (pow_21 (by omega))
        unfold mv
        have hz2 : magW (dWhole l) (dFrac l) = 0 := hz
        rw [hz, hz2]
        cases dNeg l <;> simp
    · intro hn
      show mv (textD _ _ _) * _ = _
      rw [mv_text hok]
      obtain ⟨m, hm, hm0⟩ : ∃ m : Nat, max (min n 40) (-40) = -(m : Int) ∧ 0 < m := ⟨(-(max (min n 40) (-40))).toNat, by omega, by omega⟩
      rw [hm] at h7 ⊢
      have hfl : m ≤ (shF (dWhole l) (dFrac l) (-(m : Int))).length := by
        unfold shF
        rw [if_neg (by omega), show (- -(m : Int)).toNat = m by omega, List.length_append, List.length_drop, List.length_append, List.length_replicate]; omega
      rw [← mul_sign, show (-n).toNat = m by omega, sh_down hm0 h7]
      rfl

theorem shift_zero {l : List UInt8} (h : dOk l = true) : shiftD l 0 = (l, 0) := by
  obtain ⟨h1, h2, _⟩ := dOk_parts h
  have h4 := dOk_F h
  unfold shiftD
  rw [if_neg (by rw [h]; simp), show max (min (0 : Int) 40) (-40) = ((0 : Nat) : Int) by decide]
  have e1 : shW (dWhole l) (dFrac l) ((0 : Nat) : Int) = dWhole l := by
    unfold shW
    rw [if_pos (by omega), Int.toNat_natCast, List.take_zero, List.append_nil, ← lead_trimmed (by intro e; have := okW_pos h1; rw [e] at this; simp at this), lead_whole h1]
  have e2 : shF (dWhole l) (dFrac l) ((0 : Nat) : Int) = dFrac l := by
    unfold shF
    rw [if_pos (by omega), Int.toNat_natCast, Nat.zero_min, List.drop_zero]
  rw [e1, e2]
  rcases permD_cases (dNeg l) (dWhole l) (dFrac l) with h5 | ⟨_, _, h5⟩
  · unfold permD at h5
    rw [if_neg (by have := okW_len h1; omega)] at h5
    exact absurd (congrArg Prod.snd h5) (show ¬ ((0 : Nat) = 2) by decide)
  · rw [h5, text_self h]
end Go.Proofs.YtnnidhjmakpaeaaGreatDoor
