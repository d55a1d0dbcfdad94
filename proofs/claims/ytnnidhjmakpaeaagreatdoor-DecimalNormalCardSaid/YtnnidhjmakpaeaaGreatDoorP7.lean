/- Plain: comparing numbers. -/
import Derived.Test.YtnnidhjmakpaeaaGreatDoorP6
namespace Go.Proofs.YtnnidhjmakpaeaaGreatDoor

theorem less_val : ∀ {a b : List UInt8}, a.length = b.length → allD a = true → allD b = true → Op.bytesLess a b = decide (valD a < valD b)
  | [], [], _, _, _ => by simp [Op.bytesLess]
  | [], _ :: _, h, _, _ => by simp at h
  | _ :: _, [], h, _, _ => by simp at h
  | c :: a, d :: b, h, ha, hb => by
    simp only [allD, List.all_cons, Bool.and_eq_true] at ha hb
    have hl : a.length = b.length := by simpa using h
    have ih := less_val hl ha.2 hb.2
    have h1 := valD_lt a ha.2
    have h2 := valD_lt b hb.2
    have hc := (isD_iff c).1 ha.1
    have hd := (isD_iff d).1 hb.1
    rw [Op.bytesLess, ih, valD_cons, valD_cons, ← hl]
    rw [← hl] at h2
    generalize valD a = x at *
    generalize valD b = y at *
    generalize 10 ^ a.length = p at *
    rw [Bool.eq_iff_iff]
    simp only [Bool.or_eq_true, Bool.and_eq_true, decide_eq_true_eq, beq_iff_eq]
    have hlt : c < d ↔ c.toNat < d.toNat := UInt8.lt_iff_toNat_lt
    rw [hlt]
    rcases Nat.lt_trichotomy c.toNat d.toNat with h3 | h3 | h3
    · have h4 : (c.toNat - 48 + 1) * p ≤ (d.toNat - 48) * p := Nat.mul_le_mul_right _ (by omega)
      rw [Nat.add_mul, Nat.one_mul] at h4
      exact ⟨fun _ => by omega, fun _ => .inl h3⟩
    · have e : c = d := UInt8.toNat_inj.1 h3
      subst e
      constructor
      · rintro (h4 | ⟨_, h4⟩)
        · omega
        · omega
      · intro h4
        exact .inr ⟨rfl, by omega⟩
    · have h4 : (d.toNat - 48 + 1) * p ≤ (c.toNat - 48) * p := Nat.mul_le_mul_right _ (by omega)
      rw [Nat.add_mul, Nat.one_mul] at h4
      constructor
      · rintro (h5 | ⟨h5, _⟩)
        · omega
        · rw [h5] at h3; omega
      · intro h5; omega

/-- the sign of a difference -/
def cmpI (a b : Int) : Int := if a < b then -1 else if a = b then 0 else 1
def cmpL (a b : List UInt8) : Int := if Op.bytesLess a b then -1 else if Op.bytesLess b a then 1 else 0
theorem cmpL_val {a b : List UInt8} (h : a.length = b.length) (ha : allD a = true) (hb : allD b = true) : cmpL a b = cmpI (valD a) (valD b) := by
  unfold cmpL cmpI
  rw [less_val h ha hb, less_val h.symm hb ha]
  simp only [decide_eq_true_eq]
  rcases Nat.lt_trichotomy (valD a) (valD b) with h1 | h1 | h1
  · rw [if_pos h1, if_pos (by omega)]
  · rw [if_neg (by omega), if_neg (by omega), if_neg (by omega), if_pos (by omega)]
  · rw [if_neg (by omega), if_pos h1, if_neg (by omega), if_neg (by omega)]

/-- how the program compares the absolute values -/
def fillD (f : List UInt8) (n : Nat) : List UInt8 := f ++ List.replicate (n - f.length) 48
def sizeD (w f v g : List UInt8) : Int :=
  if w.length < v.length then -1 else if v.length < w.length then 1
  else if cmpL w v = 0 then cmpL (fillD f (max f.length g.length)) (fillD g (max f.length g.length)) else cmpL w v

theorem okW_len {w : List UInt8} (h : okW w = true) : 1 ≤ w.length ∧ w.length ≤ 15 := by
  unfold okW at h
  simp only [Bool.and_eq_true, decide_eq_true_eq] at h
  exact h.1.1
theorem okW_ge {w : List UInt8} (h : okW w = true) (h1 : 1 < w.length) : 10 ^ (w.length - 1) ≤ valD w := by
  have hd := okW_allD h
  have hh : w.head? ≠ some 48 := by
    rcases okW_head h with h2 | h2
    · omega
    · exact h2
  cases w with
  | nil => simp at h1
  | cons c w =>
    simp only [allD, List.all_cons, Bool.and_eq_true] at hd
    have h2 := (isD_iff c).1 hd.1
    have h3 : c.toNat ≠ 48 := fun e => hh (by rw [UInt8.toNat_inj.1 (show c.toNat = (48 : UInt8).toNat from e)]; rfl)
    rw [valD_cons, List.length_cons, Nat.add_sub_cancel]
    have h4 : 1 * 10 ^ w.length ≤ (c.toNat - 48) * 10 ^ w.length := Nat.mul_le_mul_right _ (by omega)
    omega
theorem okW_less {w v : List UInt8} (hw : okW w = true) (hv : okW v = true) (h : w.length < v.length) : valD w < valD v := by
  have h1 := valD_lt w (okW_allD hw)
  have h2 := okW_ge hv (by have := okW_len hw; omega)
  have h3 : 10 ^ w.length ≤ 10 ^ (v.length - 1) := Nat.pow_le_pow_right (by omega) (by omega)
  omega
theorem pow_pos10 (k : Nat) : 0 < 10 ^ k := Nat.pow_pos (by omega)
theorem fill_val {f : List UInt8} {n : Nat} (h : f.length ≤ n) (h6 : n ≤ 6) : valD (pad6 f) = valD (fillD f n) * 10 ^ (6 - n) := by
  rw [pad6_eq]
  unfold fillD
  rw [valD_pad, Nat.mul_assoc, ← Nat.pow_add, show n - f.length + (6 - n) = 6 - f.length by omega]
theorem fill_len {f : List UInt8} {n : Nat} (h : f.length ≤ n) : (fillD f n).length = n := by
  unfold fillD; rw [List.length_append, List.length_replicate]; omega
theorem fill_allD {f : List UInt8} {n : Nat} (h : allD f = true) : allD (fillD f n) = true := by
  unfold fillD; rw [allD_append, h]; simp [allD, isD]
theorem cmpI_mul {a b : Nat} {p : Nat} (hp : 0 < p) : cmpI ((a * p : Nat) : Int) ((b * p : Nat) : Int) = cmpI a b := by
  unfold cmpI
  have h1 : ((a * p : Nat) : Int) < ((b * p : Nat) : Int) ↔ (a : Int) < (b : Int) := by
    rw [Int.ofNat_lt, Int.ofNat_lt]; exact Nat.mul_lt_mul_right hp
  have h2 : ((a * p : Nat) : Int) = ((b * p : Nat) : Int) ↔ (a : Int) = (b : Int) := by
    rw [Int.natCast_inj, Int.natCast_inj]
    exact ⟨fun h => Nat.eq_of_mul_eq_mul_right hp h, fun h => by rw [h]⟩
  by_cases h3 : (a : Int) < b
  · rw [if_pos h3, if_pos (h1.2 h3)]
  · by_cases h4 : (a : Int) = b
    · rw [if_neg h3, if_neg (fun h => h3 (h1.1 h)), if_pos h4, if_pos (h2.2 h4)]
    · rw [if_neg h3, if_neg (fun h => h3 (h1.1 h)), if_neg h4, if_neg (fun h => h4 (h2.1 h))]

theorem sizeD_eq {w f v g : List UInt8} (hw : okW w = true) (hv : okW v = true) (hf : allD f = true) (hg : allD g = true) (hf6 : f.length ≤ 6) (hg6 : g.length ≤ 6) :
    sizeD w f v g = cmpI (magW w f) (magW v g) := by
  have hpf := pad6_lt hf hf6
  have hpg := pad6_lt hg hg6
  have hm1 : f.length ≤ max f.length g.length := Nat.le_max_left ..
  have hm2 : g.length ≤ max f.length g.length := Nat.le_max_right ..
  have hm6 : max f.length g.length ≤ 6 := by omega
  unfold sizeD
  by_cases h1 : w.length < v.length
  · have h2 := okW_less hw hv h1
    rw [if_pos h1]
    unfold cmpI magW
    rw [if_pos (by omega)]
  · rw [if_neg h1]
    by_cases h2 : v.length < w.length
    · have h3 := okW_less hv hw h2
      rw [if_pos h2]
      unfold cmpI magW
      rw [if_neg (by omega), if_neg (by omega)]
    · rw [if_neg h2, cmpL_val (by omega) (okW_allD hw) (okW_allD hv), cmpL_val (by rw [fill_len hm1, fill_len hm2]) (fill_allD hf) (fill_allD hg),
        ← cmpI_mul (a := valD (fillD f (max f.length g.length))) (b := valD (fillD g (max f.length g.length))) (pow_pos10 (6 - max f.length g.length)), ← fill_val hm1 hm6, ← fill_val hm2 hm6]
      unfold cmpI magW
      generalize valD w = a at *
      generalize valD v = b at *
      generalize valD (pad6 f) = c at *
      generalize valD (pad6 g) = d at *
      rcases Nat.lt_trichotomy a b with h3 | h3 | h3
      · rw [if_neg (by rw [if_pos (by omega)]; decide), if_pos (by omega), if_pos (by omega)]
      · rw [if_pos (by rw [if_neg (by omega), if_pos (by omega)])]
        rcases Nat.lt_trichotomy c d with h4 | h4 | h4
        · rw [if_pos (by omega), if_pos (by omega)]
        · rw [if_neg (by omega), if_pos (by omega), if_neg (by omega), if_pos (by omega)]
        · rw [if_neg (by omega), if_neg (by omega), if_neg (by omega), if_neg (by omega)]
      · rw [if_neg (by rw [if_neg (by omega), if_neg (by omega)]; decide), if_neg (by omega), if_neg (by omega), if_neg (by omega), if_neg (by omega)]

/-- what Compare answers -/
def compV (l m : List UInt8) : Int × Nat := if dOk l && dOk m then (cmpI (mv l) (mv m), 0) else (0, 1)
theorem compV_no1 {l m : List UInt8} (h : dOk l = false) : compV l m = (0, 1) := by unfold compV; rw [h]; rfl
theorem compV_no2 {l m : List UInt8} (h : dOk m = false) : compV l m = (0, 1) := by unfold compV; rw [h, Bool.and_false]; rfl
theorem compV_yes {l m : List UInt8} (h1 : dOk l = true) (h2 : dOk m = true) : compV l m = (cmpI (mv l) (mv m), 0) := by unfold compV; rw [h1, h2]; rfl
theorem neg_pos {l : List UInt8} (h : dOk l = true) (hn : dNeg l = true) : 0 < mag l := by
  obtain ⟨h1, h2, h3⟩ := dOk_parts h
  rw [hn, Bool.true_and] at h3
  rcases Nat.eq_zero_or_pos (mag l) with h4 | h4
  · rw [mag_allZ (okW_allD h1) (okF_parts h2).2.2 h4] at h3
    cases h3
  · exact h4
theorem comp_size {l m : List UInt8} (hl : dOk l = true) (hm : dOk m = true) : sizeD (dWhole l) (dFrac l) (dWhole m) (dFrac m) = cmpI (mag l) (mag m) := by
  obtain ⟨h1, h2, _⟩ := dOk_parts hl
  obtain ⟨h3, h4, _⟩ := dOk_parts hm
  exact sizeD_eq h1 h3 (okF_parts h2).2.2 (okF_parts h4).2.2 (okF_parts h2).2.1 (okF_parts h4).2.1
theorem comp_both {l m : List UInt8} (hl : dOk l = true) (hm : dOk m = true) (h1 : dNeg l = true) (h2 : dNeg m = true) : cmpI (mv l) (mv m) = sizeD (dWhole m) (dFrac m) (dWhole l) (dFrac l) := by
  rw [comp_size hm hl]
  unfold cmpI mv
  rw [h1, h2, if_pos rfl, if_pos rfl]
  rcases Nat.lt_trichotomy (mag l) (mag m) with h | h | h
  · rw [if_neg (by omega), if_neg (by omega), if_neg (by omega), if_neg (by omega)]
  · rw [if_neg (by omega), if_pos (by omega), if_neg (by omega), if_pos (by omega)]
  · rw [if_pos (by omega), if_pos (by omega)]
theorem comp_left {l m : List UInt8} (hl : dOk l = true) (h1 : dNeg l = true) (h2 : dNeg m = false) : cmpI (mv l) (mv m) = -1 := by
  have := neg_pos hl h1
  have e1 : mv l = -(mag l : Int) := by unfold mv; rw [h1, if_pos rfl]
  have e2 : mv m = (mag m : Int) := by unfold mv; rw [h2, if_neg (by simp)]
  unfold cmpI
  rw [e1, e2, if_pos (by omega)]
theorem comp_right {l m : List UInt8} (hm : dOk m = true) (h1 : dNeg l = false) (h2 : dNeg m = true) : cmpI (mv l) (mv m) = 1 := by
  have := neg_pos hm h2
  have e1 : mv m = -(mag m : Int) := by unfold mv; rw [h2, if_pos rfl]
  have e2 : mv l = (mag l : Int) := by unfold mv; rw [h1, if_neg (by simp)]
  unfold cmpI
  rw [e1, e2, if_neg (by omega), if_neg (by omega)]
theorem comp_none {l m : List UInt8} (hl : dOk l = true) (hm : dOk m = true) (h1 : dNeg l = false) (h2 : dNeg m = false) : cmpI (mv l) (mv m) = sizeD (dWhole l) (dFrac l) (dWhole m) (dFrac m) := by
  rw [comp_size hl hm]
  unfold mv
  rw [h1, h2, if_neg (by simp), if_neg (by simp)]

theorem cmpI_swap (a b : Int) : cmpI b a = -cmpI a b := by
  unfold cmpI
  rcases Int.lt_trichotomy a b with h | h | h
  · rw [if_neg (by omega), if_neg (by omega), if_pos h]; rfl
  · subst h; simp
  · rw [if_pos h, if_neg (by omega), if_neg (by omega)]
theorem cmpI_zero {a b : Int} : cmpI a b = 0 ↔ a = b := by
  unfold cmpI
  split
  · constructor
    · intro h; cases h
    · intro h; omega
  · split
    · simp_all
    · constructor
      · intro h; cases h
      · intro h; exact absurd h ‹_›
theorem cmpI_bd (a b : Int) : -1 ≤ cmpI a b ∧ cmpI a b ≤ 1 := by
  unfold cmpI; split
  · omega
  · split <;> omega

/-- how the reference compares: the whole parts and the fractions, with their signs -/
def signD (n : Bool) (k : Nat) : Int := if n then -(k : Int) else (k : Int)
def rcompD (l m : List UInt8) : Int :=
  if signD (dNeg l) (valD (dWhole l)) < signD (dNeg m) (valD (dWhole m)) ∨ (signD (dNeg l) (valD (dWhole l)) = signD (dNeg m) (valD (dWhole m)) ∧ signD (dNeg l) (valD (pad6 (dFrac l))) < signD (dNeg m) (valD (pad6 (dFrac m)))) then -1
  else if signD (dNeg l) (valD (dWhole l)) > signD (dNeg m) (valD (dWhole m)) ∨ signD (dNeg l) (valD (pad6 (dFrac l))) > signD (dNeg m) (valD (pad6 (dFrac m))) then 1 else 0
theorem rcomp_eq {l m : List UInt8} (hl : dOk l = true) (hm : dOk m = true) : rcompD l m = cmpI (mv l) (mv m) := by
  obtain ⟨_, h2, _⟩ := dOk_parts hl
  obtain ⟨_, h4, _⟩ := dOk_parts hm
  have h5 := pad6_lt (okF_parts h2).2.2 (okF_parts h2).2.1
  have h6 := pad6_lt (okF_parts h4).2.2 (okF_parts h4).2.1
  unfold rcompD cmpI mv mag magW signD
  generalize valD (dWhole l) = a at *
  generalize valD (dWhole m) = b at *
  generalize valD (pad6 (dFrac l)) = c at *
  generalize valD (pad6 (dFrac m)) = d at *
  cases dNeg l <;> cases dNeg m <;> simp only [if_true, Bool.false_eq_true, if_false] <;> (repeat' split) <;> omega
end Go.Proofs.YtnnidhjmakpaeaaGreatDoor
